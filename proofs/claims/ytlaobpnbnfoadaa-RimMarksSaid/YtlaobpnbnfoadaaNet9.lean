/-
  Contract of graph.clone: a new net that reads alike. Conditions: the readings.
-/
import Derived.Test.YtlaobpnbnfoadaaNet8
namespace Go.Proofs.Ytlaobpnbnfoadaa
set_option linter.unusedVariables false
set_option linter.unusedSimpArgs false
set_option linter.unusedSectionVars false
set_option linter.unnecessarySimpa false
open Go Go.RowKit

theorem set4 (cs : Array Value) (k : Nat) (h : k * 3 + 3 ≤ cs.size) (a b c d : Value) :
    ((((cs.setIfInBounds (k * 3) a).setIfInBounds (k * 3 + 1) b).setIfInBounds (k * 3 + 2) c)[k * 3 + 2]? = some c) ∧
    (((((cs.setIfInBounds (k * 3) a).setIfInBounds (k * 3 + 1) b).setIfInBounds (k * 3 + 2) c).setIfInBounds (k * 3 + 2) d)[k * 3]? = some a) ∧
    (((((cs.setIfInBounds (k * 3) a).setIfInBounds (k * 3 + 1) b).setIfInBounds (k * 3 + 2) c).setIfInBounds (k * 3 + 2) d)[k * 3 + 1]? = some b) ∧
    (((((cs.setIfInBounds (k * 3) a).setIfInBounds (k * 3 + 1) b).setIfInBounds (k * 3 + 2) c).setIfInBounds (k * 3 + 2) d)[k * 3 + 2]? = some d) := by
  refine ⟨?_, ?_, ?_, ?_⟩
  · rw [Array.getElem?_setIfInBounds, if_pos rfl, if_pos (by simp; omega)]
  · rw [Array.getElem?_setIfInBounds_ne (by omega), Array.getElem?_setIfInBounds_ne (by omega), Array.getElem?_setIfInBounds_ne (by omega), Array.getElem?_setIfInBounds, if_pos rfl, if_pos (by omega)]
  · rw [Array.getElem?_setIfInBounds_ne (by omega), Array.getElem?_setIfInBounds_ne (by omega), Array.getElem?_setIfInBounds, if_pos rfl, if_pos (by simp; omega)]
  · rw [Array.getElem?_setIfInBounds, if_pos rfl, if_pos (by simp; omega)]
section
variable {F : Nat → Prop} {Av Aa At : Option Addr} {nv cv na ca nt ct : Nat} {vs xa : List Tri} {ts : List Tab} {w : World}
set_option maxRecDepth 100000 in
set_option maxHeartbeats 8000000 in
theorem clone_c (hs : Sl rTri F w Av nv cv vs) (hsa : Sl rTri F w Aa na ca xa) (hst : Sl rTab F w At nt ct ts) (hn : nv ≤ 1000) (hna : na ≤ 1000) (hnt : nt ≤ 1000) (hm : ∀ x ∈ ts, x.2.2.length ≤ 1000000) :
    Calls Try.prog 45 #[.agg #[.slice Av nv cv, .slice Aa na ca, .slice At nt ct]] w (NetOut vs xa ts w) := by
  have hpt := hst.len
  go_enter Try.func45, Try.ntmps45
  go_wp2_with (at_make; refine wpL_make tyTables rfl (.tmp 8) (.tmp 8) rfl nt .i64 .i64 rfl rfl (by omega) ?_; intro w3 hblk he3 hz3; obtain ⟨hc3, hf3⟩ := bcell he3)
  all_goals first | (exfalso; omega) | skip
  have hE3 : Ext w w3 := Ext.trans (by repeat (first | exact Ext.refl _ | assumption | refine Ext.al ?_ | refine Ext.dr ?_ | refine Ext.dn ?_ | (refine Ext.st ?_ ?_; · first | omega | (simp; done) | (simp; omega)) | refine Ext.trans ?_ (by assumption))) he3
  have hz3' : w3.heap.size = w.heap.size + 3 := by rw [hz3]; simp
  have hb0 : Blk w3 w.heap.size 69 #[.slice Av nv cv, .slice Aa na ca, .slice At nt ct] := Blk.ext (by repeat (first | assumption | (refine Blk.new_at ?_; simp; done) | refine Blk.alloc ?_ _ | refine Blk.drewN ?_ _ | (refine Blk.far ?_ ?_ _; rotate_left; · first | omega | (simp; done) | (simp; omega)))) he3
  have hb1 : Blk w3 (w.heap.size + 1) 69 #[.slice none 0 0, .slice none 0 0, .slice none 0 0] := Blk.ext (by repeat (first | assumption | (refine Blk.new_at ?_; simp; done) | refine Blk.alloc ?_ _ | refine Blk.drewN ?_ _ | (refine Blk.far ?_ ?_ _; rotate_left; · first | omega | (simp; done) | (simp; omega)))) he3
  have hcs : (madeCells (Value.agg #[.int .i64 0, .int .i64 0, .slice none 0 0]).cells (nt * 3)).size = nt * 3 := by simp [madeCells]
  have hz4 : w.heap.size + 3 ≤ w3.heap.size := by omega
  have hblk : Blk w3 (w.heap.size + 1 + 1) 94 (madeCells (Value.agg #[.int .i64 0, .int .i64 0, .slice none 0 0]).cells (nt * 3)) := by simpa using hblk
  generalize madeCells (Value.agg #[.int .i64 0, .int .i64 0, .slice none 0 0]).cells (nt * 3) = cs0 at hblk hcs
  clear he3 hz3 hc3 hf3
  go_loopw [13] (fun i wr => ∃ (k : Nat) (cs : Array Value), k ≤ nt ∧ i = .int .i64 k ∧ cs.size = nt * 3 ∧ Blk wr (w.heap.size + 1 + 1) 94 cs ∧
      (∀ j x, j < k → ts[j]? = some x → ∃ ys, (∀ i u, ys[i]? = some u → cs[j * 3 + i]? = some u) ∧ rTab.rel (fun b => w.heap.size + 3 ≤ b) wr ys x) ∧
      Blk wr w.heap.size 69 #[.slice Av nv cv, .slice Aa na ca, .slice At nt ct] ∧ Blk wr (w.heap.size + 1) 69 #[.slice none 0 0, .slice none 0 0, .slice none 0 0] ∧ Ext w wr ∧ w.heap.size + 3 ≤ wr.heap.size) (fun i _ => nt - (intOf i).toNat)
  case atStart => exact ⟨0, cs0, Nat.zero_le _, rfl, hcs, hblk, fun j x h => absurd h (by omega), hb0, hb1, hE3, hz4⟩
  case round =>
    clear hblk hcs hb0 hb1 hE3 hz4 hz3'
    obtain ⟨k, cs, hk, rfl, hcs, hbk, hread, hb0, hb1, he, hsz⟩ := hrel
    by_cases hkn : k < nt
    · obtain ⟨b, o, x1, x2, A5, n5, c5, zs, rfl, hb, hy, e1, e2, e3, k1, k2, hr5⟩ := hst.table hkn
      have hy5 := hm _ (List.mem_of_getElem? hy.out)
      rw [hr5.len] at hy5
      replace e1 := (he.cell (p := ⟨b, o + k * 3, none⟩) hb).trans e1
      replace e2 := (he.cell (p := ⟨b, o + k * 3 + 1, none⟩) hb).trans e2
      replace e3 := (he.cell (p := ⟨b, o + k * 3 + 2, none⟩) hb).trans e3
      have l2 : w.heap.size + 1 + 1 < wr.heap.size := by omega
      have g0 : wr.cell? ⟨w.heap.size + 1 + 1, k * 3, none⟩ = some (cs[k * 3]'(by omega)) := by rw [hbk.cell]; simp <;> omega
      have g1 : wr.cell? ⟨w.heap.size + 1 + 1, k * 3 + 1, none⟩ = some (cs[k * 3 + 1]'(by omega)) := by rw [hbk.cell]; simp <;> omega
      have g2 : wr.cell? ⟨w.heap.size + 1 + 1, k * 3 + 2, none⟩ = some (cs[k * 3 + 2]'(by omega)) := by rw [hbk.cell]; simp <;> omega
      have f0 : wr.frozen? ⟨w.heap.size + 1 + 1, k * 3, none⟩ = false := hbk.frozen _
      have f1 : wr.frozen? ⟨w.heap.size + 1 + 1, k * 3 + 1, none⟩ = false := hbk.frozen _
      have f2 : wr.frozen? ⟨w.heap.size + 1 + 1, k * 3 + 2, none⟩ = false := hbk.frozen _
      go_wp2_with fail
      all_goals first | (exfalso; omega) | skip
      refine (CloneI64_c (hr5.ext (by repeat (first | exact Ext.refl _ | assumption | refine Ext.al ?_ | refine Ext.dr ?_ | refine Ext.dn ?_ | (refine Ext.st ?_ ?_; · first | omega | (simp; done) | (simp; omega)) | refine Ext.trans ?_ (by assumption)))) (by omega)).mono ?_
      rintro e w5 ⟨A6, n6, c6, rfl, hs6, he6⟩
      have hz6 := he6.size
      simp at hz6
      have hbk5 := Blk.ext (Blk.alloc (Blk.set_ (Blk.set_ (Blk.set_ hbk (k * 3) (.int .i64 x1)) (k * 3 + 1) (.int .i64 x2)) (k * 3 + 2) (.slice A5 n5 c5)) _) he6
      have g5 : w5.cell? ⟨w.heap.size + 1 + 1, k * 3 + 2, none⟩ = some (.slice A5 n5 c5) := by
        exact (hbk5.cell (k * 3 + 2)).trans (set4 cs k (by omega) _ _ _ (.int .i64 0)).1
      have f5 : w5.frozen? ⟨w.heap.size + 1 + 1, k * 3 + 2, none⟩ = false := hbk5.frozen (k * 3 + 2)
      have hb05 : Blk w5 w.heap.size 69 #[.slice Av nv cv, .slice Aa na ca, .slice (some ⟨b, o, none⟩) nt ct] := Blk.ext (Blk.alloc (Blk.far (Blk.far (Blk.far hb0 (by simp <;> omega) _) (by simp <;> omega) _) (by simp <;> omega) _) _) he6
      have hb15 : Blk w5 (w.heap.size + 1) 69 #[.slice none 0 0, .slice none 0 0, .slice none 0 0] := Blk.ext (Blk.alloc (Blk.far (Blk.far (Blk.far hb1 (by simp <;> omega) _) (by simp <;> omega) _) (by simp <;> omega) _) _) he6
      have he5 : Ext w w5 := Ext.trans (by repeat (first | exact Ext.refl _ | assumption | refine Ext.al ?_ | refine Ext.dr ?_ | refine Ext.dn ?_ | (refine Ext.st ?_ ?_; · first | omega | (simp; done) | (simp; omega)) | refine Ext.trans ?_ (by assumption))) he6
      have hkeep : ∀ d, w.heap.size + 3 ≤ d → d < wr.heap.size → w5.heap[d]? = wr.heap[d]? := fun d h1 h2 =>
        (he6.block d (by simp; omega)).trans ((Below.heap_alloc _ _ d (by simp; omega)).trans ((Below.heap_setCell _ _ _ d (by simp; omega)).trans ((Below.heap_setCell _ _ _ d (by simp; omega)).trans (Below.heap_setCell _ _ _ d (by simp; omega)))))
      replace hs6 : Sl rI (fun d => w.heap.size + 3 ≤ d) w5 A6 n6 c6 zs := hs6.mono fun d h _ => by simp at h; omega
      have hbk6 := Blk.set_ hbk5 (k * 3 + 2) (.slice A6 n6 c6)
      clear he6 g0 g1 g2 f0 f1 f2 hbk hb0 hb1 e1 e2 e3
      go_wp2_with fail
      all_goals first | (exfalso; omega) | skip
      go_roundw
      case rel =>
        refine ⟨k + 1, _, by omega, by go_num, ?_, hbk6, fun j x hj hx => ?_, Blk.far hb05 (by simp <;> omega) _, Blk.far hb15 (by simp <;> omega) _, (by repeat (first | exact Ext.refl _ | assumption | refine Ext.al ?_ | refine Ext.dr ?_ | refine Ext.dn ?_ | (refine Ext.st ?_ ?_; · first | omega | (simp; done) | (simp; omega)) | refine Ext.trans ?_ (by assumption))), by simp; omega⟩
        · simpa using hcs
        · by_cases hjk : j = k
          · subst hjk
            rw [hy.out] at hx
            injection hx with hx
            subst hx
            refine ⟨[.int .i64 x1, .int .i64 x2, .slice A6 n6 c6], fun i u hu => ?_, ⟨_, _, _, rfl, WalkArith.wf_i64 k1, WalkArith.wf_i64 k2, hs6.setCell (by simp) _⟩⟩
            obtain ⟨-, t0, t1, t2⟩ := set4 cs j (by omega) (.int .i64 x1) (.int .i64 x2) (.slice A5 n5 c5) (.slice A6 n6 c6)
            match i, hu with
            | 0, hu => simp only [List.getElem?_cons_zero] at hu; rw [← hu]; exact t0
            | 1, hu => simp only [List.getElem?_cons_zero, List.getElem?_cons_succ] at hu; rw [← hu]; exact t1
            | 2, hu => simp only [List.getElem?_cons_zero, List.getElem?_cons_succ] at hu; rw [← hu]; exact t2
            | i + 3, hu => simp at hu
          · obtain ⟨ys, h1, h2⟩ := hread j x (by omega) hx
            refine ⟨ys, fun i u hu => ?_, rTab.keep (fun d hd hlt => (Below.heap_setCell _ _ _ d (by simp; omega)).trans (hkeep d hd hlt)) h2⟩
            have h3 := rTab.len h2
            have h4 : i < 3 := by rw [← show ys.length = 3 from h3]; exact (List.getElem?_eq_some_iff.1 hu).1
            rw [Array.getElem?_setIfInBounds_ne (by omega), Array.getElem?_setIfInBounds_ne (by omega), Array.getElem?_setIfInBounds_ne (by omega), Array.getElem?_setIfInBounds_ne (by omega)]
            exact h1 i u hu
      case measure => simp [intOf]; omega
    · obtain rfl : k = nt := by omega
      obtain ⟨wo, rfl⟩ : ∃ wo : World, wo = wr := ⟨_, rfl⟩
      have q0 : wo.cell? ⟨w.heap.size, 0, none⟩ = some (.slice Av nv cv) := hb0.cell 0
      have q1 : wo.cell? ⟨w.heap.size, 1, none⟩ = some (.slice Aa na ca) := hb0.cell 1
      have r0 : wo.cell? ⟨w.heap.size + 1, 0, none⟩ = some (.slice none 0 0) := hb1.cell 0
      have r1 : wo.cell? ⟨w.heap.size + 1, 1, none⟩ = some (.slice none 0 0) := hb1.cell 1
      have r2 : wo.cell? ⟨w.heap.size + 1, 2, none⟩ = some (.slice none 0 0) := hb1.cell 2
      have s0 : wo.frozen? ⟨w.heap.size + 1, 0, none⟩ = false := hb1.frozen 0
      have s1 : wo.frozen? ⟨w.heap.size + 1, 1, none⟩ = false := hb1.frozen 1
      have s2 : wo.frozen? ⟨w.heap.size + 1, 2, none⟩ = false := hb1.frozen 2
      have l0 : w.heap.size < wo.heap.size := by omega
      have l1 : w.heap.size + 1 < wo.heap.size := by omega
      have hts : Sl rTab (fun b => w.heap.size + 2 ≤ b) wo (some ⟨w.heap.size + 1 + 1, 0, none⟩) k k ts :=
        Sl.of_blk hbk hpt (by simp [maxLen]; omega) (by omega) fun j x hx => by
          obtain ⟨ys, h1, h2⟩ := hread j x (by have := (List.getElem?_eq_some_iff.1 hx).1; omega) hx
          exact ⟨ys, h1, rTab.mono (fun b hb _ => by omega) h2⟩
      clear hread hbk hb0 hb1
      go_wp2_with fail
      all_goals first | (exfalso; omega) | skip
      go_region_held3 (fun w' => w'.cell? ⟨w.heap.size, 0, none⟩ = some (.slice Av nv cv) ∧ w'.cell? ⟨w.heap.size, 1, none⟩ = some (.slice Aa na ca))
        (first | go_keep | (go_split_ands; refine ⟨?_, ?_⟩ <;> first | exact h5c0 | exact h5c1 | exact h6c0 | exact h6c1))
        (first | fail | (
          go_at_call 62
          refine (CloneVerts_c (hs.ext (he.trans (by repeat (first | exact Ext.refl _ | assumption | refine Ext.al ?_ | refine Ext.dr ?_ | refine Ext.dn ?_ | (refine Ext.st ?_ ?_; · first | omega | (simp; done) | (simp; omega)) | refine Ext.trans ?_ (by assumption))))) (by omega)).mono ?_
          rintro e w5 ⟨A5, n5, c5, rfl, hv5, he5'⟩
          have he5 : Ext wo w5 := Ext.trans (by repeat (first | exact Ext.refl _ | assumption | refine Ext.al ?_ | refine Ext.dr ?_ | refine Ext.dn ?_ | (refine Ext.st ?_ ?_; · first | omega | (simp; done) | (simp; omega)) | refine Ext.trans ?_ (by assumption))) he5'
          have hz5 := he5'.size
          try simp at hz5
          replace hv5 : Sl rTri (fun b => w.heap.size + 2 ≤ b) w5 A5 n5 c5 vs := hv5.mono fun b h _ => by (try simp at h); omega
          obtain ⟨hc5, hf5⟩ := bcell he5
          have h5c0 := (he5.cell (p := ⟨w.heap.size, 0, none⟩) l0).trans q0
          have h5c1 := (he5.cell (p := ⟨w.heap.size, 1, none⟩) l0).trans q1) | (
          go_at_call 63
          refine (CloneArcs_c (hsa.ext (he.trans (by repeat (first | exact Ext.refl _ | assumption | refine Ext.al ?_ | refine Ext.dr ?_ | refine Ext.dn ?_ | (refine Ext.st ?_ ?_; · first | omega | (simp; done) | (simp; omega)) | refine Ext.trans ?_ (by assumption))))) (by omega)).mono ?_
          rintro e w6 ⟨A6, n6, c6, rfl, hv6, he6'⟩
          have he6 : Ext wo w6 := Ext.trans (by repeat (first | exact Ext.refl _ | assumption | refine Ext.al ?_ | refine Ext.dr ?_ | refine Ext.dn ?_ | (refine Ext.st ?_ ?_; · first | omega | (simp; done) | (simp; omega)) | refine Ext.trans ?_ (by assumption))) he6'
          have hz6 := he6'.size
          try simp at hz6
          replace hv6 : Sl rTri (fun b => w.heap.size + 2 ≤ b) w6 A6 n6 c6 xa := hv6.mono fun b h _ => by (try simp at h); omega
          obtain ⟨hc6, hf6⟩ := bcell he6
          have h6c0 := (he6.cell (p := ⟨w.heap.size, 0, none⟩) l0).trans q0
          have h6c1 := (he6.cell (p := ⟨w.heap.size, 1, none⟩) l0).trans q1))
      · rename_i K hK hH
        refine hK _ _ ?_
        clear hH
        have hv := hv5.ext he6'
        have hx := hv6
        have ht := hts.ext he6
        have heq : Ext w w6 := he.trans he6
        go_wp2_with fail
        refine bodyPost_ret (v := .agg #[.slice A5 n5 c5, .slice A6 n6 c6, .slice (some ⟨w.heap.size + 1 + 1, 0, none⟩) k k]) (by simp [results, Try.results45, go_sem, hc6, hc5, l1, r0, r1, r2]) rfl ⟨_, _, _, _, _, _, _, _, _, rfl, ?_, ?_, ?_, (by repeat (first | exact Ext.refl _ | assumption | refine Ext.al ?_ | refine Ext.dr ?_ | refine Ext.dn ?_ | (refine Ext.st ?_ ?_; · first | omega | (simp; done) | (simp; omega)) | refine Ext.trans ?_ (by assumption)))⟩
        · exact (((hv.setCell (by simp) _).setCell (by simp) _).setCell (by simp) _).mono fun b h _ => by omega
        · exact (((hx.setCell (by simp) _).setCell (by simp) _).setCell (by simp) _).mono fun b h _ => by omega
        · exact (((ht.setCell (by simp) _).setCell (by simp) _).setCell (by simp) _).mono fun b h _ => by omega
end
end Go.Proofs.Ytlaobpnbnfoadaa
