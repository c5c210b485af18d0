/-
  Contracts of the document's Cross and Inside: which arcs they tell. Conditions: the readings.
-/
import Derived.Test.YtlaobpnbnfoadaaRim3
namespace Go.Proofs.Ytlaobpnbnfoadaa
set_option linter.unusedVariables false
set_option linter.unusedSimpArgs false
set_option linter.unusedSectionVars false
set_option linter.unnecessarySimpa false
open Go Go.RowKit

theorem lvl_out {p : List (List Int)} {l : Int} (h : ¬ (1 ≤ l ∧ l ≤ p.length)) : lvl p l = [] := by
  unfold lvl
  split
  · rw [List.getElem?_eq_none (by omega)]; rfl
  · rfl
theorem endsOf_nil (arcs : List Tri) (a : Int) : endsOf [] arcs a = none := by
  unfold endsOf
  rw [if_neg (by simp only [List.length_nil]; omega)]
theorem pick_none {f : Int → Bool} {k : Nat} (h : ∀ a, f a = false) : pick f k = [] := by simp [pick, h]

section
variable {F G : Nat → Prop} {A B A0 A2 : Option Addr} {n c m d n0 c0 n2 c2 : Nat} {arcs : List Tri} {p : List (List Int)} {w : World} {nv : Nat}
set_option maxHeartbeats 1000000 in
theorem refCross_c (l : Int) (hn6 : n ≤ 1000000) (hm6 : m ≤ 1000000) (hfit : Fits nv p arcs) (hs : Sl rTri G w B m d arcs) (hp : Sl (Rd.slice rI) F w A n c p) :
    Calls Try.prog 15 #[.agg #[.slice A0 n0 c0, .slice B m d, .slice A2 n2 c2], .agg #[.slice A n c], .int .i64 l] w (FreshInts w (pick (fun a => crossB p arcs a l) m)) := by
  have hs' := hs.lt
  have hp' := hp.lt
  have hpl := hp.len
  go_enter Try.func15, Try.ntmps15
  go_wp2_with fail
  go_loopw [7, 8] (fun v i wr => ∃ k : Nat, k ≤ m ∧ i = .int .i64 k ∧ wr.ownsRow (w.heap.size + 2) 3 1 v (pick (fun a => crossB p arcs a l) k).length ((pick (fun a => crossB p arcs a l) k).map (Value.int .i64)) ∧ Below w.heap.size w wr ∧ w.heap.size + 2 ≤ wr.heap.size ∧
    wr.cell? ⟨w.heap.size, 0, none⟩ = some (.slice A0 n0 c0) ∧ wr.cell? ⟨w.heap.size, 1, none⟩ = some (.slice B m d) ∧ wr.cell? ⟨w.heap.size, 2, none⟩ = some (.slice A2 n2 c2) ∧ wr.cell? ⟨w.heap.size + 1, 0, none⟩ = some (.slice A n c)) (fun _ i _ => m - (intOf i).toNat)
  case atStart => exact ⟨0, Nat.zero_le _, rfl, World.ownsRow_nil _ _ _ _, (by repeat (first | exact Ext.refl _ | assumption | refine Ext.al ?_ | refine Ext.dr ?_ | refine Ext.dn ?_ | (refine Ext.st ?_ ?_; · first | omega | (simp; done) | (simp; omega)) | refine Ext.trans ?_ (by assumption))), by simp, by simp, by simp, by simp, by simp⟩
  case round =>
    obtain ⟨k, hk, rfl, hown, hbel, hsz, q0, q1, q2, q3⟩ := hrel
    have hpkl := pick_len (fun a => crossB p arcs a l) k
    by_cases hkm : k < m
    · go_wp2_with fail
      all_goals first | (exfalso; omega) | skip
      refine (Has_c _ _).mono ?_
      rintro e w1 ⟨rfl, he1⟩
      obtain ⟨hc1, hf1⟩ := bcell he1
      have r0 := (hc1 _ 0 (by omega)).trans q0
      have r1 := (hc1 _ 1 (by omega)).trans q1
      have r2 := (hc1 _ 2 (by omega)).trans q2
      have r3 := (hc1 _ 0 (by omega)).trans q3
      have hown1 := own_ext hown he1
      have hz1 : w.heap.size + 2 ≤ w1.heap.size := Nat.le_trans hsz he1.size
      have hbel1 := below_ext hbel he1 hbel.size
      clear hc1 hf1 q0 q1 q2 q3 hown he1 hbel hsz
      by_cases hl : 1 ≤ l ∧ l ≤ n
      · have hd : decide (1 ≤ l ∧ l ≤ n) = true := by simpa using hl
        rw [hd]
        obtain ⟨j, rfl⟩ : ∃ j : Nat, l = (j : Int) + 1 := ⟨(l - 1).toNat, by omega⟩
        obtain ⟨b, o, b1, o1, c1, b2, o2, f, t, x, y, rfl, rfl, e1, e2, e3, hf, ht, e4, e5, hE, hnv⟩ := two_ends hfit (hs'.below hbel1 (fun _ h _ => h)) (hp'.below hbel1 (fun _ h _ => h)) (k := j) (by omega) hkm
        unfold maxLen at hnv
        by_cases hxy : x = y
        · have hb : (x != y) = false := by simpa using hxy
          have hcf := Lib.hid (pick_no (f := fun a => crossB p arcs a ((j : Int) + 1)) (k := k) (by simp only [crossB, hE.out, hb]))
          clear hxy
          go_wp2_with (go_quiet (fail))
          all_goals first | (exfalso; omega) | skip
          go_roundw
          case rel => exact ⟨k + 1, by omega, by go_num, by rw [hcf.out]; exact hown1, below_drewN hbel1 _, by simp; omega, r0, r1, r2, r3⟩
          case measure => simp [intOf]; omega
        · have hb : (x != y) = true := by simpa using hxy
          have hcf := Lib.hid (pick_yes (f := fun a => crossB p arcs a ((j : Int) + 1)) (k := k) (by simp only [crossB, hE.out, hb]))
          clear hxy
          go_wp2_with (first | (at_builtin; refine wpL_append1 tyInts rfl (.tmp 50) (.tmp 52) rfl rfl hown1 #[.int .i64 k] rfl rfl (by simp [Value.oneCell']) (by omega) hz1 ?_; intro g3 cap w3 hown3 hgr3 hat3 hlt3) | go_quiet (fail))
          all_goals first | (exfalso; omega) | skip
          have hgr3' := grown_of_drewN hgr3
          go_roundw
          case rel => exact ⟨k + 1, by omega, by go_num, by rw [hcf.out]; simpa using hown3, below_own hbel1 hown1 hgr3' (by omega) (by omega), by have := hgr3'.size; omega,
            own_far hown1 hgr3' (by omega) r0, own_far hown1 hgr3' (by omega) r1, own_far hown1 hgr3' (by omega) r2, own_far hown1 hgr3' (by omega) r3⟩
          case measure => simp [intOf]; omega
      · have hd : decide (1 ≤ l ∧ l ≤ n) = false := by simpa using hl
        rw [hd]
        have h0 : ∀ k, pick (fun a => crossB p arcs a l) k = [] := fun k => pick_none fun a => by simp [crossB, lvl_out (p := p) (l := l) (by rw [hpl]; exact hl), endsOf_nil]
        have h0' := Lib.hid h0
        rw [h0] at hown1
        clear h0
        obtain ⟨A4, c4, rfl, -⟩ := own_shape hown1
        go_wp2_with fail
        all_goals first | (exfalso; omega) | skip
        go_ret
        exact ⟨_, _, _, rfl, by rw [h0'.out]; exact Sl.of_own_ints (xs := []) hown1 (fun g h => by omega) (by simp), hbel1⟩
    · obtain rfl : k = m := by omega
      obtain ⟨A4, c4, rfl, -⟩ := own_shape hown
      go_wp2_with fail
      all_goals first | (exfalso; omega) | skip
      go_ret
      exact ⟨_, _, _, rfl, Sl.of_own_ints hown (fun g h => by omega) (pick_wf (by omega)), hbel⟩
set_option maxHeartbeats 1000000 in
theorem refInside_c (l cl : Int) (hn6 : n ≤ 1000000) (hm6 : m ≤ 1000000) (hfit : Fits nv p arcs) (hs : Sl rTri G w B m d arcs) (hp : Sl (Rd.slice rI) F w A n c p) :
    Calls Try.prog 17 #[.agg #[.slice A0 n0 c0, .slice B m d, .slice A2 n2 c2], .agg #[.slice A n c], .int .i64 l, .int .i64 cl] w (FreshInts w (pick (fun a => insideB p arcs a l cl) m)) := by
  have hs' := hs.lt
  have hp' := hp.lt
  have hpl := hp.len
  go_enter Try.func17, Try.ntmps17
  go_wp2_with fail
  go_loopw [9, 10] (fun v i wr => ∃ k : Nat, k ≤ m ∧ i = .int .i64 k ∧ wr.ownsRow (w.heap.size + 2) 3 1 v (pick (fun a => insideB p arcs a l cl) k).length ((pick (fun a => insideB p arcs a l cl) k).map (Value.int .i64)) ∧ Below w.heap.size w wr ∧ w.heap.size + 2 ≤ wr.heap.size ∧
    wr.cell? ⟨w.heap.size, 0, none⟩ = some (.slice A0 n0 c0) ∧ wr.cell? ⟨w.heap.size, 1, none⟩ = some (.slice B m d) ∧ wr.cell? ⟨w.heap.size, 2, none⟩ = some (.slice A2 n2 c2) ∧ wr.cell? ⟨w.heap.size + 1, 0, none⟩ = some (.slice A n c)) (fun _ i _ => m - (intOf i).toNat)
  case atStart => exact ⟨0, Nat.zero_le _, rfl, World.ownsRow_nil _ _ _ _, (by repeat (first | exact Ext.refl _ | assumption | refine Ext.al ?_ | refine Ext.dr ?_ | refine Ext.dn ?_ | (refine Ext.st ?_ ?_; · first | omega | (simp; done) | (simp; omega)) | refine Ext.trans ?_ (by assumption))), by simp, by simp, by simp, by simp, by simp⟩
  case round =>
    obtain ⟨k, hk, rfl, hown, hbel, hsz, q0, q1, q2, q3⟩ := hrel
    have hpkl := pick_len (fun a => insideB p arcs a l cl) k
    by_cases hkm : k < m
    · go_wp2_with fail
      all_goals first | (exfalso; omega) | skip
      refine (Has_c _ _).mono ?_
      rintro e w1 ⟨rfl, he1⟩
      obtain ⟨hc1, hf1⟩ := bcell he1
      have r0 := (hc1 _ 0 (by omega)).trans q0
      have r1 := (hc1 _ 1 (by omega)).trans q1
      have r2 := (hc1 _ 2 (by omega)).trans q2
      have r3 := (hc1 _ 0 (by omega)).trans q3
      have hown1 := own_ext hown he1
      have hz1 : w.heap.size + 2 ≤ w1.heap.size := Nat.le_trans hsz he1.size
      have hbel1 := below_ext hbel he1 hbel.size
      clear hc1 hf1 q0 q1 q2 q3 hown he1 hbel hsz
      by_cases hl : 1 ≤ l ∧ l ≤ n
      · have hd : decide (1 ≤ l ∧ l ≤ n) = true := by simpa using hl
        rw [hd]
        obtain ⟨j, rfl⟩ : ∃ j : Nat, l = (j : Int) + 1 := ⟨(l - 1).toNat, by omega⟩
        obtain ⟨b, o, b1, o1, c1, b2, o2, f, t, x, y, rfl, rfl, e1, e2, e3, hf, ht, e4, e5, hE, hnv⟩ := two_ends hfit (hs'.below hbel1 (fun _ h _ => h)) (hp'.below hbel1 (fun _ h _ => h)) (k := j) (by omega) hkm
        unfold maxLen at hnv
        by_cases hxy : x = cl
        · have hb : (x == cl) = true := by simpa using hxy
          clear hxy
          by_cases hxy : y = cl
          · have hb2 : (y == cl) = true := by simpa using hxy
            have hcf := Lib.hid (pick_yes (f := fun a => insideB p arcs a ((j : Int) + 1) cl) (k := k) (by simp only [insideB, hE.out, hb, hb2]; simp))
            clear hxy
            go_wp2_with (first | (at_builtin; refine wpL_append1 tyInts rfl (.tmp 57) (.tmp 59) rfl rfl hown1 #[.int .i64 k] rfl rfl (by simp [Value.oneCell']) (by omega) hz1 ?_; intro g3 cap w3 hown3 hgr3 hat3 hlt3) | go_quiet (fail))
            all_goals first | (exfalso; omega) | skip
            have hgr3' := grown_of_drewN hgr3
            go_roundw
            case rel => exact ⟨k + 1, by omega, by go_num, by rw [hcf.out]; simpa using hown3, below_own hbel1 hown1 hgr3' (by omega) (by omega), by have := hgr3'.size; omega, own_far hown1 hgr3' (by omega) r0, own_far hown1 hgr3' (by omega) r1, own_far hown1 hgr3' (by omega) r2, own_far hown1 hgr3' (by omega) r3⟩
            case measure => simp [intOf]; omega
          · have hb2 : (y == cl) = false := by simpa using hxy
            have hcf := Lib.hid (pick_no (f := fun a => insideB p arcs a ((j : Int) + 1) cl) (k := k) (by simp only [insideB, hE.out, hb, hb2]; simp))
            clear hxy
            go_wp2_with (go_quiet (fail))
            all_goals first | (exfalso; omega) | skip
            go_roundw
            case rel => exact ⟨k + 1, by omega, by go_num, by rw [hcf.out]; exact hown1, below_drewN hbel1 _, by simp; omega, r0, r1, r2, r3⟩
            case measure => simp [intOf]; omega
        · have hb : (x == cl) = false := by simpa using hxy
          have hcf := Lib.hid (pick_no (f := fun a => insideB p arcs a ((j : Int) + 1) cl) (k := k) (by simp only [insideB, hE.out, hb]; simp))
          clear hxy
          go_wp2_with (go_quiet (fail))
          all_goals first | (exfalso; omega) | skip
          go_roundw
          case rel => exact ⟨k + 1, by omega, by go_num, by rw [hcf.out]; exact hown1, below_drewN hbel1 _, by simp; omega, r0, r1, r2, r3⟩
          case measure => simp [intOf]; omega
      · have hd : decide (1 ≤ l ∧ l ≤ n) = false := by simpa using hl
        rw [hd]
        have h0 : ∀ k, pick (fun a => insideB p arcs a l cl) k = [] := fun k => pick_none fun a => by simp [insideB, lvl_out (p := p) (l := l) (by rw [hpl]; exact hl), endsOf_nil]
        have h0' := Lib.hid h0
        rw [h0] at hown1
        clear h0
        obtain ⟨A4, c4, rfl, -⟩ := own_shape hown1
        go_wp2_with fail
        all_goals first | (exfalso; omega) | skip
        go_ret
        exact ⟨_, _, _, rfl, by rw [h0'.out]; exact Sl.of_own_ints (xs := []) hown1 (fun g h => by omega) (by simp), hbel1⟩
    · obtain rfl : k = m := by omega
      obtain ⟨A4, c4, rfl, -⟩ := own_shape hown
      go_wp2_with fail
      all_goals first | (exfalso; omega) | skip
      go_ret
      exact ⟨_, _, _, rfl, Sl.of_own_ints hown (fun g h => by omega) (pick_wf (by omega)), hbel⟩
end
end Go.Proofs.Ytlaobpnbnfoadaa
