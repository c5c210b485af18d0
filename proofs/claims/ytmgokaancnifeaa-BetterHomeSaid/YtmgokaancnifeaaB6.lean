/-
  Contract of ref28.Right. Conditions: the readings; a square table; few and short rows; loads in their range.
-/
import Derived.Test.YtmgokaancnifeaaB5
namespace Go.Proofs.Ytmgokaancnifeaa
set_option linter.unusedVariables false
set_option linter.unusedSimpArgs false
set_option linter.unusedSectionVars false
set_option linter.unnecessarySimpa false
open Go Go.RowKit

def seenL (t : List Bool) : List Int := t.map fun b => if b then 1 else 0
theorem seenL_set (t : List Bool) (k : Nat) : ((seenL t).map (Value.int .i64)).toArray.setIfInBounds k (.int .i64 1) = ((seenL (t.set k true)).map (Value.int .i64)).toArray := by
  simp [seenL, List.map_set]
theorem kept5 {wo w w' : World} {a b c d e : Addr} {x y z u v : Value} (h : Ext w w') (hk : Ext wo w ∧ w.cell? a = some x ∧ w.cell? b = some y ∧ w.cell? c = some z ∧ w.cell? d = some u ∧ w.cell? e = some v) :
    Ext wo w' ∧ w'.cell? a = some x ∧ w'.cell? b = some y ∧ w'.cell? c = some z ∧ w'.cell? d = some u ∧ w'.cell? e = some v :=
  ⟨hk.1.trans h, (h.cell (cell_lt2 hk.2.1)).trans hk.2.1, (h.cell (cell_lt2 hk.2.2.1)).trans hk.2.2.1, (h.cell (cell_lt2 hk.2.2.2.1)).trans hk.2.2.2.1, (h.cell (cell_lt2 hk.2.2.2.2.1)).trans hk.2.2.2.2.1, (h.cell (cell_lt2 hk.2.2.2.2.2)).trans hk.2.2.2.2.2⟩
section
variable {F G H : Nat → Prop} {A B R : Option Addr} {m n p c c2 c3 : Nat} {d : List (List Int)} {r : List Int} {rs : List (List Int)} {stops : List (Int × Int)} {w : World}
set_option maxRecDepth 100000 in
set_option maxHeartbeats 16000000 in
theorem refRight_c (dep cap lim : Int) (hs : Sl rP F w A n c stops) (hd : Sl rT G w B m c2 d) (hr : Sl rRows H w R p c3 rs) (hl : ∀ x ∈ stops, 0 ≤ x.2 ∧ x.2 ≤ 2147483648) (hn : n ≤ 1000) (hp : p ≤ 1000) (h1000 : ∀ r ∈ rs, r.length ≤ 1000)
    (hsq : ∀ x ∈ d, x.length = m) (hm0 : 0 < m) (hm1 : m ≤ 1000) :
    Calls Try.prog 16 #[.agg #[.int .i64 dep, .int .i64 cap, .int .i64 lim, .slice A n c], .slice B m c2, .slice R p c3] w fun e w' => e = .returned (.bool (rightI ⟨d, stops, cap, lim⟩ rs)) ∧ Ext w w' := by
  obtain ⟨J, hJ⟩ : ∃ J : JD, J = ⟨d, stops, cap, lim⟩ := ⟨_, rfl⟩
  have HLS := Lib.hid hs.len
  have HL := Lib.hid hr.len
  have HLD := Lib.hid hl
  have HSQ := Lib.hid hsq
  have H1000 := Lib.hid h1000
  have HJ := Lib.hid hJ
  have hJs : J.stops.length = n := by rw [hJ]; exact hs.len
  have HN := Lib.hid hJs
  rw [← hJ]
  have hm := hr.max
  have hle := hr.le
  unfold maxLen at hm
  have HS := fun W (h : Ext w W) => hs.ext h
  have HD := fun W (h : Ext w W) => hd.ext h
  have HR := fun W (h : Ext w W) => hr.lt.ext h
  clear hl h1000 hJ hJs hs hd hr hsq
  go_enter Try.func16, Try.ntmps16
  go_wp2_with (at_make; refine wpL_make tyInts rfl (.tmp 15) (.tmp 15) rfl (n + 1) .i64 .i64 (by simp [Act.eval]) (by simp [Act.eval]) (by omega) ?_; intro w1 hb1 he1 hz1)
  all_goals first | (exfalso; omega) | skip
  have hbj : Blk w1 w.heap.size 24 #[.int .i64 dep, .int .i64 cap, .int .i64 lim, .slice A n c] := (Blk.new w _ _).ext he1
  have hb1' : Blk w1 (w.heap.size + 1) 3 ((seenL (List.replicate (n + 1) false)).map (Value.int .i64)).toArray := by
    have h2 : (w.alloc (.cells #[.int .i64 dep, .int .i64 cap, .int .i64 lim, .slice A n c] 24)).heap.size = w.heap.size + 1 := by simp
    rw [h2] at hb1
    simpa [madeCells_one, Value.cells, seenL] using hb1
  have hE1 : Ext w w1 := Ext.trans (by repeat (first | exact Ext.refl _ | assumption | refine Ext.al ?_ | refine Ext.dr ?_ | refine Ext.dn ?_ | (refine Ext.st ?_ ?_; · first | omega | (simp; done) | (simp; omega)) | refine Ext.trans ?_ (by assumption))) he1
  clear hb1 he1 hz1
  go_loopw [8, 9] (fun cv i wr => ∃ (k q : Nat) (t : List Bool), k ≤ p ∧ i = .int .i64 k ∧ cv = .int .i64 q ∧ q ≤ 1000 * k ∧ Blk wr (w.heap.size + 1) 3 ((seenL t).map (Value.int .i64)).toArray ∧ Blk wr w.heap.size 24 #[.int .i64 dep, .int .i64 cap, .int .i64 lim, .slice A n c] ∧ Hid (t.length = n + 1) ∧ Hid (rightI J rs = rightGo J (rs.drop k) t q) ∧ Ext w wr) (fun _ i _ => p - (intOf i).toNat)
  case atStart => exact ⟨0, 0, List.replicate (n + 1) false, Nat.zero_le _, rfl, rfl, by omega, hb1', hbj, Lib.hid (by simp), Lib.hid (by rw [rightI, HN.out]; rfl), hE1⟩
  case round =>
    obtain ⟨k, q, t, hk, rfl, rfl, hq, hbt, hbx, htl, hu, he⟩ := hrel
    obtain ⟨wz, rfl⟩ : ∃ wz : World, wz = wr := ⟨_, rfl⟩
    clear hb1' hbj hE1
    by_cases hkp : k < p
    · obtain ⟨b, o, A2, n2, c4, r, rfl, hbl, hx, e1, hr2⟩ := (HR _ he).row hkp
      have e1' : wz.cell? ⟨b, o + k, none⟩ = some (.slice A2 n2 c4) := e1
      have hbw : b < w.heap.size := by
        obtain ⟨b', o', hA, hF, -, -⟩ := (HR _ he).at_ (by omega)
        injection hA with hA
        injection hA with f1 f2
        subst f1
        exact hF
      have HCE : Hid (∀ W, Ext w W → W.cell? ⟨b, o + k, none⟩ = some (.slice A2 n2 c4)) := Lib.hid (fun W h => (h.cell (p := ⟨b, o + k, none⟩) hbw).trans ((he.cell (p := ⟨b, o + k, none⟩) hbw).symm.trans e1'))
      have hn2 : n2 ≤ 1000 := by rw [← hr2.len]; exact H1000.out r (List.mem_of_getElem? hx.out)
      have hst := hu.out.trans (rightGo_at hx.out)
      rw [HN.out] at hst
      have HL2 := Lib.hid hr2.len
      have hm2 := hr2.max
      have hle2 := hr2.le
      unfold maxLen at hm2
      have q3 : (k : Int) < (p : Int) := by omega
      clear e1 hx
      rcases Nat.eq_zero_or_pos n2 with h0 | h0
      · subst h0
        have hrn : r = [] := hr2.empty
        have HF : Hid (rightI J rs = false) := Lib.hid (by rw [hst, if_pos hrn])
        clear hst
        go_wp2_with fail
        all_goals first | (exfalso; omega) | skip
        go_ret
        exact ⟨by rw [HF.out]; rfl, he⟩
      · have hrn : r ≠ [] := fun e => by have := HL2.out; rw [e] at this; simp at this; omega
        rw [if_neg hrn] at hst
        have HST := Lib.hid hst
        have hn0 : ((n2 : Int) == 0) = false := by simp; omega
        clear hst hrn
        go_wp2_with fail
        all_goals first | (exfalso; omega) | skip
        go_loopw [8, 10] (fun cv i wr => ∃ (j : Nat) (t' : List Bool), j ≤ n2 ∧ i = .int .i64 j ∧ cv = .int .i64 ((q : Int) + j) ∧ Blk wr (w.heap.size + 1) 3 ((seenL t').map (Value.int .i64)).toArray ∧ Blk wr w.heap.size 24 #[.int .i64 dep, .int .i64 cap, .int .i64 lim, .slice A n c] ∧ Hid (t'.length = n + 1) ∧ Hid (markI n r t = markI n (r.drop j) t') ∧ Ext w wr) (fun _ i _ => n2 - (intOf i).toNat)
        case atStart => exact ⟨0, t, Nat.zero_le _, rfl, by simp, hbt, hbx, htl, Lib.hid (by simp), he⟩
        case round =>
          obtain ⟨j, t', hj, rfl, rfl, hbt', hbx', htl', hu', he'⟩ := hrel
          obtain ⟨wy, rfl⟩ : ∃ wy : World, wy = wr := ⟨_, rfl⟩
          have ey := HCE.out wy he'
          by_cases hjn : j < n2
          · have hry := hr2.via he he'
            obtain ⟨b2, o2, x, rfl, hbl2, hxx, c0, x0, x1⟩ := hry.int hjn
            have hst := hu'.out.trans (markI_at hxx.out)
            have hlw := hbt'.lt
            have e3 : wy.cell? ⟨w.heap.size, 3, none⟩ = some (.slice A n c) := hbx'.cell 3
            have q4 : (j : Int) < (n2 : Int) := by omega
            clear hxx hry
            by_cases hb1 : x < 1
            · have HF : Hid (rightI J rs = false) := Lib.hid (by rw [HST.out, hst, if_pos (.inl hb1)])
              clear hst hbt' hbx'
              go_wp2_with fail
              all_goals first | (exfalso; omega) | skip
              go_ret
              exact ⟨by rw [HF.out]; rfl, he'⟩
            · by_cases hb2 : (n : Int) < x
              · have HF : Hid (rightI J rs = false) := Lib.hid (by rw [HST.out, hst, if_pos (.inr (.inl hb2))])
                clear hst hbt' hbx'
                go_wp2_with fail
                all_goals first | (exfalso; omega) | skip
                go_ret
                exact ⟨by rw [HF.out]; rfl, he'⟩
              · obtain ⟨s, rfl⟩ := Int.eq_ofNat_of_zero_le (show 0 ≤ x by omega)
                have hsl : s < t'.length := by rw [htl'.out]; omega
                obtain ⟨tb, htb⟩ : ∃ tb, t'[s]? = some tb := ⟨_, List.getElem?_eq_getElem hsl⟩
                have cb : wy.cell? ⟨w.heap.size + 1, s, none⟩ = some (.int .i64 (if tb then 1 else 0)) := by
                  rw [hbt'.cell, List.getElem?_toArray, List.getElem?_map, seenL, List.getElem?_map, htb]
                  rfl
                have hfz := hbt'.frozen s
                have s1 : (s : Int) < (n : Int) + 1 := by omega
                have s2 : ((s : Int) < ((n + 1 : Nat) : Int)) := by omega
                have s3 : s < n + 1 := by omega
                rw [Int.toNat_natCast, htb] at hst
                cases tb with
                | true =>
                  have cb' : wy.cell? ⟨w.heap.size + 1, s, none⟩ = some (.int .i64 1) := cb
                  have HF : Hid (rightI J rs = false) := Lib.hid (by rw [HST.out, hst, if_pos (.inr (.inr rfl))])
                  clear hst hbt' hbx' htb cb
                  go_wp2_with fail
                  all_goals first | (exfalso; omega) | skip
                  go_ret
                  exact ⟨by rw [HF.out]; rfl, he'⟩
                | false =>
                  have cb' : wy.cell? ⟨w.heap.size + 1, s, none⟩ = some (.int .i64 0) := cb
                  have HM : Hid (markI n r t = markI n (r.drop (j + 1)) (t'.set s true)) := Lib.hid (by rw [hst, if_neg (by simp; omega)])
                  have HBT := Lib.hid hbt'
                  have HBX := Lib.hid hbx'
                  clear hst hbt' hbx' htb cb
                  go_wp2_with fail
                  all_goals first | (exfalso; omega) | skip
                  go_roundw
                  case rel => exact ⟨j + 1, t'.set s true, by omega, by go_num, by go_num, by rw [← seenL_set]; exact HBT.out.set_ s _, Blk.far HBX.out (by simp) _, Lib.hid (by rw [List.length_set]; exact htl'.out), HM, (by repeat (first | exact Ext.refl _ | assumption | refine Ext.al ?_ | refine Ext.dr ?_ | refine Ext.dn ?_ | (refine Ext.st ?_ ?_; · first | omega | (simp; done) | (simp; omega)) | refine Ext.trans ?_ (by assumption)))⟩
                  case measure => simp [intOf]; omega
          · obtain rfl : j = n2 := by omega
            have hmk : markI n r t = some t' := by rw [hu'.out, List.drop_eq_nil_of_le (by rw [HL2.out]; omega)]; rfl
            obtain ⟨gb, hgb⟩ : ∃ gb, goesB J r = gb := ⟨_, rfl⟩
            have hst := HST.out
            rw [hmk] at hst
            simp only [hgb] at hst
            have HGB : Hid (goesB ⟨d, stops, cap, lim⟩ r = gb) := Lib.hid (by rw [← HJ.out]; exact hgb)
            have e0 : wy.cell? ⟨w.heap.size, 0, none⟩ = some (.int .i64 dep) := hbx'.cell 0
            have e1 : wy.cell? ⟨w.heap.size, 1, none⟩ = some (.int .i64 cap) := hbx'.cell 1
            have e2 : wy.cell? ⟨w.heap.size, 2, none⟩ = some (.int .i64 lim) := hbx'.cell 2
            have e3 : wy.cell? ⟨w.heap.size, 3, none⟩ = some (.slice A n c) := hbx'.cell 3
            have hry := hr2.via he he'
            have HHS := Lib.hid hst
            have HBT := Lib.hid hbt'
            have HBX := Lib.hid hbx'
            have HRY := fun W (h : Ext wy W) => hry.ext h
            clear hmk hgb hst hbt' hbx' hr2 hry
            go_upto_region 16 with fail
            go_cut [76] (fun s76 wx => s76 = .bool (!gb) ∧ Ext wy wx)
            case first =>
              go_region_held3 (fun w' => Ext wy w' ∧ w'.cell? ⟨w.heap.size, 0, none⟩ = some (.int .i64 dep) ∧ w'.cell? ⟨w.heap.size, 1, none⟩ = some (.int .i64 cap) ∧ w'.cell? ⟨w.heap.size, 2, none⟩ = some (.int .i64 lim) ∧ w'.cell? ⟨w.heap.size, 3, none⟩ = some (.slice A n c) ∧ w'.cell? ⟨b, o + k, none⟩ = some (.slice A2 j c4))
                (first | assumption | exact ⟨Ext.dr (Ext.refl _), e0, e1, e2, e3, ey⟩ | exact kept5 (by assumption) (by assumption))
                (first | fail | (
                  go_at_call 27
                  have hE := And.left (by assumption : Ext wy _ ∧ _)
                  refine Calls.mono (refGoes_v HGB.out (HS _ (he'.trans hE)) (HD _ (he'.trans hE)) (HRY _ hE) HLD.out ⟨hn2, hn⟩ HSQ.out hm0 hm1) ?_
                  rintro e w5 ⟨rfl, he5⟩
                  clear hE))
              have hE5 : Ext wy w5 := And.left (by assumption : Ext wy w5 ∧ _)
              go_wp2_with fail
              go_meet
              exact ⟨rfl, hE5⟩
            case rest =>
              obtain ⟨rfl, hcw⟩ := hcut
              obtain ⟨w5, hw5⟩ : ∃ w5 : World, w5 = wc := ⟨_, rfl⟩
              rw [← hw5] at hcw ⊢
              clear hw5 e0 e1 e2 e3 ey
              have hE5 := he'.trans hcw
              cases gb with
              | false =>
                have HF : Hid (rightI J rs = false) := Lib.hid (by rw [HHS.out]; rfl)
                go_wp2_with fail
                all_goals first | (exfalso; omega) | skip
                go_ret
                exact ⟨by rw [HF.out]; rfl, hE5⟩
              | true =>
                have HF : Hid (rightI J rs = rightGo J (rs.drop (k + 1)) t' (q + j)) := Lib.hid (by rw [HHS.out, HL2.out]; rfl)
                go_wp2_with fail
                all_goals first | (exfalso; omega) | skip
                go_roundw
                case rel => exact ⟨k + 1, q + j, t', by omega, by go_num, by go_num, by omega, HBT.out.ext hcw, HBX.out.ext hcw, htl', HF, hE5⟩
                case measure => simp [intOf]; omega
    · obtain rfl : k = p := by omega
      have HF : Hid (rightI J rs = decide (q = n)) := Lib.hid (by rw [hu.out, List.drop_eq_nil_of_le (by rw [HL.out]; omega), rightGo, HN.out])
      have e3 : wz.cell? ⟨w.heap.size, 3, none⟩ = some (.slice A n c) := hbx.cell 3
      go_wp2_with fail
      all_goals first | (exfalso; omega) | skip
      go_ret
      refine ⟨?_, he⟩
      rw [HF.out]
      by_cases hqn : q = n
      · simp [hqn]
      · have : ((q : Int) == (n : Int)) = false := by simp; omega
        simp [hqn, this]
end
end Go.Proofs.Ytmgokaancnifeaa
