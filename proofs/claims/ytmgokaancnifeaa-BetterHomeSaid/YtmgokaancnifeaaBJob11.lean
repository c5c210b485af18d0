/-
  Contract of ref28.Fits. Conditions: the readings, few stops.
-/
import Derived.Test.YtmgokaancnifeaaBJob8
import Derived.BigQuiet
namespace Go.Proofs.Ytmgokaancnifeaa
set_option linter.unusedVariables false
set_option linter.unusedSimpArgs false
set_option linter.unusedSectionVars false
set_option linter.unnecessarySimpa false
open Go Go.RowKit

theorem rAdd_v {a b c : Int} {w : World} (h : addI a b = c) : Calls Try.prog 21 #[.int .i64 a, .int .i64 b] w fun e w' => e = .returned (.int .i64 c) ∧ Ext w w' := by
  rw [← h]; exact ref6Add_c a b w
theorem Sl.off {F : Nat → Prop} {w : World} {A A' : Option Addr} {n' c c' : Nat} {s : ByteArray} {a x : Int} {g : Nat} {t : TypeId} (h : Sl Rd.part F w A 1 c [(s, a)]) (hb : Blk w g t #[.slice A' n' c', .int .i64 x]) : Sl Rd.part (fun b => b ≠ g) w A 1 c [(s, a)] := by
  obtain ⟨b, o, rfl, c0, c1⟩ := h.part1
  have hne : b ≠ g := by
    rintro rfl
    rw [hb.cell o] at c0
    match o, c0 with
    | 0, c0 => simp at c0
    | 1, c0 => simp at c0
    | o + 2, c0 => simp at c0
  refine ⟨h.len, h.le, h.max, fun hn => ?_⟩
  obtain ⟨b', o', h1, h2, h3, h4⟩ := h.at_ hn
  injection h1 with h1
  injection h1 with e1 e2
  subst e1 e2
  exact ⟨b, o, rfl, hne, h3, h4⟩
section
variable {F G : Nat → Prop} {A B : Option Addr} {m n c c2 : Nat} {d : List (List Int)} {stops : List (Int × Int)} {w : World}
set_option maxRecDepth 100000 in
set_option maxHeartbeats 16000000 in
theorem refFits_c (dep cap lim : Int) (hs : Sl rP F w A n c stops) (hd : Sl rT G w B m c2 d) (hn : n ≤ 1000) :
    Calls Try.prog 24 #[.agg #[.int .i64 dep, .int .i64 cap, .int .i64 lim, .slice A n c], .slice B m c2] w (WrPost (fitsErr d cap lim stops) w) := by
  have hm := hs.max
  have hle := hs.le
  have HL := Lib.hid hs.len
  unfold maxLen at hm
  go_enter Try.func24, Try.ntmps24
  go_wp2_with fail
  all_goals first | (exfalso; omega) | skip
  refine (refSquare_c ((n : Int) + 1) (hd.ext (by repeat (first | exact Ext.refl _ | assumption | refine Ext.al ?_ | refine Ext.dr ?_ | refine Ext.dn ?_ | (refine Ext.st ?_ ?_; · first | omega | (simp; done) | (simp; omega)) | refine Ext.trans ?_ (by assumption))))).mono ?_
  rintro e w1 ⟨v1, rfl, hv1, he1⟩
  have hE1 : Ext w w1 := Ext.trans (by repeat (first | exact Ext.refl _ | assumption | refine Ext.al ?_ | refine Ext.dr ?_ | refine Ext.dn ?_ | (refine Ext.st ?_ ?_; · first | omega | (simp; done) | (simp; omega)) | refine Ext.trans ?_ (by assumption))) he1
  have hb1 : Blk w1 w.heap.size 24 #[.int .i64 dep, .int .i64 cap, .int .i64 lim, .slice A n c] := Blk.ext (Blk.alloc (Blk.new w _ _) _) he1
  have hb2 : Blk w1 (w.heap.size + 1) 56 #[.slice none 0 0, .int .i64 0] := Blk.ext (Blk.new_at (by simp)) he1
  have hlt1 : w.heap.size + 1 < w1.heap.size := hb2.lt
  clear he1
  cases hq : squareErr ((n : Int) + 1) d with
  | some x =>
    obtain ⟨xs, xa, xe⟩ := x
    rw [hq] at hv1
    have HR : Hid (fitsErr d cap lim stops = some (xs, xa, xe)) := Lib.hid (fits_bad (by rw [HL.out]; exact hq))
    obtain ⟨q1, A1, c1, rfl, hx1⟩ := hv1
    have hx1' := hx1.off hb2
    have hxb : (xe != 0) = true := by simp at q1 ⊢; exact q1
    have z1 : w1.cell? ⟨w.heap.size + 1, 0, none⟩ = some (.slice none 0 0) := hb2.cell 0
    have z2 : w1.cell? ⟨w.heap.size + 1, 1, none⟩ = some (.int .i64 0) := hb2.cell 1
    have zf1 := hb2.frozen 0
    have zf2 := hb2.frozen 1
    have HX := Lib.hid hx1'
    clear hq hx1 hx1' hb1
    go_wp2_with fail
    all_goals first | (exfalso; omega) | skip
    have gB := Blk.alloc (Blk.set_ (Blk.set_ hb2 0 (.slice A1 1 c1)) 1 (.int .i64 xe)) (.cells #[.slice A1 1 c1, .int .i64 xe] 56)
    have y1 : World.cell? _ ⟨w.heap.size + 1, 0, none⟩ = some (.slice A1 1 c1) := gB.cell 0
    have y2 : World.cell? _ ⟨w.heap.size + 1, 1, none⟩ = some (.int .i64 xe) := gB.cell 1
    refine bodyPost_ret (v := .agg #[.slice A1 1 c1, .int .i64 xe]) (by simp [results, Try.results24, go_sem, y1, y2]) rfl ⟨_, rfl, by rw [HR.out]; exact ⟨q1, _, _, rfl, (((HX.out.setCell (p := ⟨w.heap.size + 1, 0, none⟩) (by simp) _).setCell (p := ⟨w.heap.size + 1, 1, none⟩) (by simp) _).ext (Ext.al (Ext.refl _))).mono fun _ _ _ => trivial⟩, (by repeat (first | exact Ext.refl _ | assumption | refine Ext.al ?_ | refine Ext.dr ?_ | refine Ext.dn ?_ | (refine Ext.st ?_ ?_; · first | omega | (simp; done) | (simp; omega)) | refine Ext.trans ?_ (by assumption)))⟩
  | none =>
    rw [hq] at hv1
    obtain ⟨A1, n1, c1, rfl⟩ := hv1
    obtain ⟨hdl, hdr⟩ := square_ok hq
    have HR0 : Hid (fitsErr d cap lim stops = tripErr d cap lim stops 0) := Lib.hid (fits_good (by rw [HL.out]; exact hq))
    have hmn : m = n + 1 := by have := hd.len; omega
    subst hmn
    have HDR := Lib.hid hdr
    have j3 : w1.cell? ⟨w.heap.size, 3, none⟩ = some (.slice A n c) := hb1.cell 3
    clear hq hdl hdr
    go_wp2_with fail
    all_goals first | (exfalso; omega) | skip
    go_loopw [6] (fun i wr => ∃ k : Nat, k ≤ n ∧ i = .int .i64 ((k : Int) + 1) ∧ Ext w wr ∧ Blk wr w.heap.size 24 #[.int .i64 dep, .int .i64 cap, .int .i64 lim, .slice A n c] ∧ Blk wr (w.heap.size + 1) 56 #[.slice none 0 0, .int .i64 0] ∧ Hid (tripErr d cap lim stops 0 = tripErr d cap lim (stops.drop k) k)) (fun i _ => n + 1 - (intOf i).toNat)
    case atStart => exact ⟨0, Nat.zero_le _, rfl, (by repeat (first | exact Ext.refl _ | assumption | refine Ext.al ?_ | refine Ext.dr ?_ | refine Ext.dn ?_ | (refine Ext.st ?_ ?_; · first | omega | (simp; done) | (simp; omega)) | refine Ext.trans ?_ (by assumption))), hb1.alloc _, hb2.alloc _, Lib.hid rfl⟩
    case round =>
      obtain ⟨k, hk, rfl, he, hbx, hby, hu⟩ := hrel
      obtain ⟨wz, rfl⟩ : ∃ wz : World, wz = wr := ⟨_, rfl⟩
      have lz := he.size
      have j3' : wz.cell? ⟨w.heap.size, 3, none⟩ = some (.slice A n c) := hbx.cell 3
      by_cases hkn : k < n
      · obtain ⟨b, o, x, l, rfl, hbl, hx, c0, c1', ⟨x0, x1⟩, l0, l1⟩ := (hs.ext he).pair hkn
        have hst := hu.out.trans (tripErr_at hx.out)
        obtain ⟨bd, od, A0, n0, c0', r0, rfl, hbd, hr0, e0, s0⟩ := (hd.ext he).row (k := 0) (by omega)
        obtain ⟨bd', od', Ak, nk, ck', rk, heq, hbd', hrk, ek, sk⟩ := (hd.ext he).row (k := k + 1) (by omega)
        injection heq with heq
        injection heq with e1 e2
        subst e1 e2
        obtain ⟨hl0, hin0⟩ := HDR.out r0 (List.mem_of_getElem? hr0.out)
        obtain ⟨hlk, hink⟩ := HDR.out rk (List.mem_of_getElem? hrk.out)
        rw [s0.len] at hl0
        rw [sk.len] at hlk
        obtain rfl : n0 = n + 1 := by omega
        obtain rfl : nk = n + 1 := by omega
        obtain ⟨ba, oa, there, rfl, hba, ht, ca, t0, t1⟩ := s0.int (k := k + 1) (by omega)
        obtain ⟨bb, ob, back, rfl, hbb, hb, cb, q0, q1⟩ := sk.int (k := 0) (by omega)
        have hth := hin0 there (List.mem_of_getElem? ht.out)
        have hba2 := hink back (List.mem_of_getElem? hb.out)
        have hct : cellI d 0 (k + 1) = there := by simp [cellI, hr0.out, ht.out]
        have hcb : cellI d (k + 1) 0 = back := by simp [cellI, hrk.out, hb.out]
        rw [hct, hcb] at hst
        have e0' : wz.cell? ⟨bd, od, none⟩ = some (.slice (some ⟨ba, oa, none⟩) (n + 1) c0') := e0
        have ek' : wz.cell? ⟨bd, od + (k + 1), none⟩ = some (.slice (some ⟨bb, ob, none⟩) (n + 1) ck') := ek
        have cb' : wz.cell? ⟨bb, ob, none⟩ = some (.int .i64 back) := cb
        have ca' : wz.cell? ⟨ba, oa + (k + 1), none⟩ = some (.int .i64 there) := ca
        have s0l := s0.le
        have skl := sk.le
        have hm2 := hd.max
        have hm3 := s0.max
        have hm4 := sk.max
        have hdle := hd.le
        unfold maxLen at hm2 hm3 hm4
        obtain ⟨tl, tu⟩ := hth
        obtain ⟨bl, bu⟩ := hba2
        obtain ⟨s, hsum⟩ : ∃ s, addI there back = s := ⟨_, rfl⟩
        rw [hsum] at hst
        have sb := addI_bd there back
        rw [hsum] at sb
        have HSUM := Lib.hid hsum
        have HST := Lib.hid hst
        have w2' : (0 : Int) ≤ (k : Int) + 1 := by omega
        have w3' : ((k : Int) + 1).toNat = k + 1 := by omega
        have w4' : (k : Int) + 1 < ((n + 1 : Nat) : Int) := by omega
        have w5' : IntKind.i64.wrap ((k : Int) + 1 - 1) = (k : Int) := by rw [show (k : Int) + 1 - 1 = k by omega]; exact IntWalk.i64_in _ (by omega)
        have hlow : (k : Int) + 1 ≤ (n : Int) := by omega
        clear hst hct hcb hsum hr0 hrk ht hb e0 ek cb ca hin0 hink hx s0 sk
        go_wp2_with fail
        all_goals first | (exfalso; omega) | skip
        go_region_held3 (fun w' => Ext wz w' ∧ w'.cell? ⟨bd, od, none⟩ = some (.slice (some ⟨ba, oa, none⟩) (n + 1) c0') ∧ w'.cell? ⟨bd, od + (k + 1), none⟩ = some (.slice (some ⟨bb, ob, none⟩) (n + 1) ck') ∧ w'.cell? ⟨ba, oa + (k + 1), none⟩ = some (.int .i64 there) ∧ w'.cell? ⟨bb, ob, none⟩ = some (.int .i64 back))
          (first | assumption | exact ⟨Ext.dr (Ext.refl _), e0', ek', ca', cb'⟩ | exact kept4 (by assumption) (by assumption))
          (first | fail | (
            go_at_call 21
            with_reducible refine Calls.mono (rAdd_v HSUM.out) ?_
            rintro e w2 ⟨rfl, he2⟩))
        all_goals
          rename_i K hK hT hH
          have hEz : Ext wz w2 := hH.1
          have hE2 : Ext w w2 := he.trans hEz
          have hw1 := hbx.ext hEz
          have hw2 := hby.ext hEz
          have u3 : w2.cell? ⟨w.heap.size, 3, none⟩ = some (.slice (some ⟨b, o, none⟩) n c) := hw1.cell 3
          have u1 : w2.cell? ⟨w.heap.size, 1, none⟩ = some (.int .i64 cap) := hw1.cell 1
          have u2 : w2.cell? ⟨w.heap.size, 2, none⟩ = some (.int .i64 lim) := hw1.cell 2
          have ul : w2.cell? ⟨b, o + k * 2 + 1, none⟩ = some (.int .i64 l) := (hEz.cell (p := ⟨b, o + k * 2 + 1, none⟩) (cell_lt2 c1')).trans c1'
          have v1 : w2.cell? ⟨bd, od, none⟩ = some (.slice (some ⟨ba, oa, none⟩) (n + 1) c0') := hH.2.1
          have v2 : w2.cell? ⟨bd, od + (k + 1), none⟩ = some (.slice (some ⟨bb, ob, none⟩) (n + 1) ck') := hH.2.2.1
          have v3 : w2.cell? ⟨ba, oa + (k + 1), none⟩ = some (.int .i64 there) := hH.2.2.2.1
          have v4 : w2.cell? ⟨bb, ob, none⟩ = some (.int .i64 back) := hH.2.2.2.2
          have hsz2 : w.heap.size + 1 < w2.heap.size := hw2.lt
          have w6' : IntKind.i64.wrap (k : Int) = (k : Int) := IntWalk.i64_in _ (by omega)
          refine hK _ _ ?_
          clear hH hT he2 hEz c0 c1' e0' ek' ca' cb' hbx hby j3'
          by_cases a1 : cap < l
          · have HR : Hid (fitsErr d cap lim stops = some (stopW, (k : Int) + 1, 13)) := Lib.hid (by rw [HR0.out, HST.out, if_pos a1])
            go_wp2_with (go_quiet (fail))
            all_goals first | (exfalso; omega) | skip
            (go_wp2_with fail; (all_goals first | (exfalso; omega) | skip); refine (At_c stopW _ 13 _ (by decide) (WalkArith.wf_i64 (by omega))).mono ?_; rintro e w9 ⟨A9, c9, rfl, hx9, he9⟩; have gb : Blk w9 (w.heap.size + 1) 56 #[.slice none 0 0, .int .i64 0] := (by first | exact hw2.ext he9 | exact hw2.drew.ext he9 | exact (hw2.drewN _).ext he9); have z1 : w9.cell? ⟨w.heap.size + 1, 0, none⟩ = some (.slice none 0 0) := gb.cell 0; have z2 : w9.cell? ⟨w.heap.size + 1, 1, none⟩ = some (.int .i64 0) := gb.cell 1; have zf1 := gb.frozen 0; have zf2 := gb.frozen 1; have zl := gb.lt; replace hx9 := hx9.mono (G := fun b => w.heap.size + 1 < b) (fun b h _ => by first | omega | (simp at h; omega)); go_wp2_with fail; refine bodyPost_ret (v := .agg #[.slice A9 1 c9, .int .i64 13]) (by simp [results, Try.results24, go_sem, z1, z2]) rfl ⟨_, rfl, by rw [HR.out]; exact ⟨rfl, _, _, rfl, ((hx9.setCell (by simp) _).setCell (by simp) _).mono fun _ _ _ => trivial⟩, (by repeat (first | exact Ext.refl _ | assumption | refine Ext.al ?_ | refine Ext.dr ?_ | refine Ext.dn ?_ | (refine Ext.st ?_ ?_; · first | omega | (simp; done) | (simp; omega)) | refine Ext.trans ?_ (by assumption)))⟩)
          · by_cases a2 : 1152921504606846976 ≤ there ∨ 1152921504606846976 ≤ back
            · have HR : Hid (fitsErr d cap lim stops = some (stopW, (k : Int) + 1, 12)) := Lib.hid (by rw [HR0.out, HST.out, if_neg a1, if_pos a2])
              by_cases a3 : 1152921504606846976 ≤ there
              · have a4 : (there == 1152921504606846976) = true := by simp; omega
                clear a2
                go_wp2_with (go_quiet (fail))
                all_goals first | (exfalso; omega) | skip
                (go_wp2_with fail; (all_goals first | (exfalso; omega) | skip); refine (At_c stopW _ 12 _ (by decide) (WalkArith.wf_i64 (by omega))).mono ?_; rintro e w9 ⟨A9, c9, rfl, hx9, he9⟩; have gb : Blk w9 (w.heap.size + 1) 56 #[.slice none 0 0, .int .i64 0] := (by first | exact hw2.ext he9 | exact hw2.drew.ext he9 | exact (hw2.drewN _).ext he9); have z1 : w9.cell? ⟨w.heap.size + 1, 0, none⟩ = some (.slice none 0 0) := gb.cell 0; have z2 : w9.cell? ⟨w.heap.size + 1, 1, none⟩ = some (.int .i64 0) := gb.cell 1; have zf1 := gb.frozen 0; have zf2 := gb.frozen 1; have zl := gb.lt; replace hx9 := hx9.mono (G := fun b => w.heap.size + 1 < b) (fun b h _ => by first | omega | (simp at h; omega)); go_wp2_with fail; refine bodyPost_ret (v := .agg #[.slice A9 1 c9, .int .i64 12]) (by simp [results, Try.results24, go_sem, z1, z2]) rfl ⟨_, rfl, by rw [HR.out]; exact ⟨rfl, _, _, rfl, ((hx9.setCell (by simp) _).setCell (by simp) _).mono fun _ _ _ => trivial⟩, (by repeat (first | exact Ext.refl _ | assumption | refine Ext.al ?_ | refine Ext.dr ?_ | refine Ext.dn ?_ | (refine Ext.st ?_ ?_; · first | omega | (simp; done) | (simp; omega)) | refine Ext.trans ?_ (by assumption)))⟩)
              · have a4 : (there == 1152921504606846976) = false := by simp; omega
                have a5 : (back == 1152921504606846976) = true := by simp; omega
                clear a2
                go_wp2_with (go_quiet (fail))
                all_goals first | (exfalso; omega) | skip
                (go_wp2_with fail; (all_goals first | (exfalso; omega) | skip); refine (At_c stopW _ 12 _ (by decide) (WalkArith.wf_i64 (by omega))).mono ?_; rintro e w9 ⟨A9, c9, rfl, hx9, he9⟩; have gb : Blk w9 (w.heap.size + 1) 56 #[.slice none 0 0, .int .i64 0] := (by first | exact hw2.ext he9 | exact hw2.drew.ext he9 | exact (hw2.drewN _).ext he9); have z1 : w9.cell? ⟨w.heap.size + 1, 0, none⟩ = some (.slice none 0 0) := gb.cell 0; have z2 : w9.cell? ⟨w.heap.size + 1, 1, none⟩ = some (.int .i64 0) := gb.cell 1; have zf1 := gb.frozen 0; have zf2 := gb.frozen 1; have zl := gb.lt; replace hx9 := hx9.mono (G := fun b => w.heap.size + 1 < b) (fun b h _ => by first | omega | (simp at h; omega)); go_wp2_with fail; refine bodyPost_ret (v := .agg #[.slice A9 1 c9, .int .i64 12]) (by simp [results, Try.results24, go_sem, z1, z2]) rfl ⟨_, rfl, by rw [HR.out]; exact ⟨rfl, _, _, rfl, ((hx9.setCell (by simp) _).setCell (by simp) _).mono fun _ _ _ => trivial⟩, (by repeat (first | exact Ext.refl _ | assumption | refine Ext.al ?_ | refine Ext.dr ?_ | refine Ext.dn ?_ | (refine Ext.st ?_ ?_; · first | omega | (simp; done) | (simp; omega)) | refine Ext.trans ?_ (by assumption)))⟩)
            · have a3 : (there == 1152921504606846976) = false := by simp; omega
              have a4 : (back == 1152921504606846976) = false := by simp; omega
              by_cases a5 : 1152921504606846976 ≤ s ∨ lim < s
              · have HR : Hid (fitsErr d cap lim stops = some (stopW, (k : Int) + 1, 14)) := Lib.hid (by rw [HR0.out, HST.out, if_neg a1, if_neg a2, if_pos a5])
                clear a2
                by_cases a6 : 1152921504606846976 ≤ s
                · have a7 : (s == 1152921504606846976) = true := by simp; omega
                  clear a5
                  go_wp2_with (go_quiet (fail))
                  all_goals first | (exfalso; omega) | skip
                  (go_wp2_with fail; (all_goals first | (exfalso; omega) | skip); refine (At_c stopW _ 14 _ (by decide) (WalkArith.wf_i64 (by omega))).mono ?_; rintro e w9 ⟨A9, c9, rfl, hx9, he9⟩; have gb : Blk w9 (w.heap.size + 1) 56 #[.slice none 0 0, .int .i64 0] := (by first | exact hw2.ext he9 | exact hw2.drew.ext he9 | exact (hw2.drewN _).ext he9); have z1 : w9.cell? ⟨w.heap.size + 1, 0, none⟩ = some (.slice none 0 0) := gb.cell 0; have z2 : w9.cell? ⟨w.heap.size + 1, 1, none⟩ = some (.int .i64 0) := gb.cell 1; have zf1 := gb.frozen 0; have zf2 := gb.frozen 1; have zl := gb.lt; replace hx9 := hx9.mono (G := fun b => w.heap.size + 1 < b) (fun b h _ => by first | omega | (simp at h; omega)); go_wp2_with fail; refine bodyPost_ret (v := .agg #[.slice A9 1 c9, .int .i64 14]) (by simp [results, Try.results24, go_sem, z1, z2]) rfl ⟨_, rfl, by rw [HR.out]; exact ⟨rfl, _, _, rfl, ((hx9.setCell (by simp) _).setCell (by simp) _).mono fun _ _ _ => trivial⟩, (by repeat (first | exact Ext.refl _ | assumption | refine Ext.al ?_ | refine Ext.dr ?_ | refine Ext.dn ?_ | (refine Ext.st ?_ ?_; · first | omega | (simp; done) | (simp; omega)) | refine Ext.trans ?_ (by assumption)))⟩)
                · have a7 : (s == 1152921504606846976) = false := by simp; omega
                  have a8 : lim < s := by omega
                  clear a5
                  go_wp2_with (go_quiet (fail))
                  all_goals first | (exfalso; omega) | skip
                  (go_wp2_with fail; (all_goals first | (exfalso; omega) | skip); refine (At_c stopW _ 14 _ (by decide) (WalkArith.wf_i64 (by omega))).mono ?_; rintro e w9 ⟨A9, c9, rfl, hx9, he9⟩; have gb : Blk w9 (w.heap.size + 1) 56 #[.slice none 0 0, .int .i64 0] := (by first | exact hw2.ext he9 | exact hw2.drew.ext he9 | exact (hw2.drewN _).ext he9); have z1 : w9.cell? ⟨w.heap.size + 1, 0, none⟩ = some (.slice none 0 0) := gb.cell 0; have z2 : w9.cell? ⟨w.heap.size + 1, 1, none⟩ = some (.int .i64 0) := gb.cell 1; have zf1 := gb.frozen 0; have zf2 := gb.frozen 1; have zl := gb.lt; replace hx9 := hx9.mono (G := fun b => w.heap.size + 1 < b) (fun b h _ => by first | omega | (simp at h; omega)); go_wp2_with fail; refine bodyPost_ret (v := .agg #[.slice A9 1 c9, .int .i64 14]) (by simp [results, Try.results24, go_sem, z1, z2]) rfl ⟨_, rfl, by rw [HR.out]; exact ⟨rfl, _, _, rfl, ((hx9.setCell (by simp) _).setCell (by simp) _).mono fun _ _ _ => trivial⟩, (by repeat (first | exact Ext.refl _ | assumption | refine Ext.al ?_ | refine Ext.dr ?_ | refine Ext.dn ?_ | (refine Ext.st ?_ ?_; · first | omega | (simp; done) | (simp; omega)) | refine Ext.trans ?_ (by assumption)))⟩)
              · have HN : Hid (tripErr d cap lim stops 0 = tripErr d cap lim (stops.drop (k + 1)) (k + 1)) := Lib.hid (by rw [HST.out, if_neg a1, if_neg a2, if_neg a5])
                have a6 : (s == 1152921504606846976) = false := by simp; omega
                have a7 : ¬ lim < s := by omega
                clear a2 a5
                go_wp2_with (go_quiet (fail))
                all_goals first | (exfalso; omega) | skip
                go_roundw
                case rel => exact ⟨k + 1, by omega, by go_num, (by repeat (first | exact Ext.refl _ | assumption | refine Ext.al ?_ | refine Ext.dr ?_ | refine Ext.dn ?_ | (refine Ext.st ?_ ?_; · first | omega | (simp; done) | (simp; omega)) | refine Ext.trans ?_ (by assumption))), by first | exact hw1 | exact hw1.drewN _, by first | exact hw2 | exact hw2.drewN _, HN⟩
                case measure => simp [intOf]; omega
      · have HR : Hid (fitsErr d cap lim stops = none) := Lib.hid (by rw [HR0.out, hu.out, List.drop_eq_nil_of_le (by rw [HL.out]; omega)]; rfl)
        have z1 : wz.cell? ⟨w.heap.size + 1, 0, none⟩ = some (.slice none 0 0) := hby.cell 0
        have z2 : wz.cell? ⟨w.heap.size + 1, 1, none⟩ = some (.int .i64 0) := hby.cell 1
        have zf1 := hby.frozen 0
        have zf2 := hby.frozen 1
        have zl := hby.lt
        go_wp2_with fail
        all_goals first | (exfalso; omega) | skip
        refine bodyPost_ret (v := .agg #[.slice none 0 0, .int .i64 0]) (by simp [results, Try.results24, go_sem, z1, z2]) rfl ⟨_, rfl, by rw [HR.out]; exact ⟨_, _, _, rfl⟩, (by repeat (first | exact Ext.refl _ | assumption | refine Ext.al ?_ | refine Ext.dr ?_ | refine Ext.dn ?_ | (refine Ext.st ?_ ?_; · first | omega | (simp; done) | (simp; omega)) | refine Ext.trans ?_ (by assumption)))⟩
end
end Go.Proofs.Ytmgokaancnifeaa
