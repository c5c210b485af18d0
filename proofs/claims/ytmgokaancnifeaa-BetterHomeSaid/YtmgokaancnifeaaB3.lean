/-
  Contract of better.Right. Conditions: the readings; few and short rows; loads in their range.
-/
import Derived.Test.YtmgokaancnifeaaB2
namespace Go.Proofs.Ytmgokaancnifeaa
set_option linter.unusedVariables false
set_option linter.unusedSimpArgs false
set_option linter.unusedSectionVars false
set_option linter.unnecessarySimpa false
open Go Go.RowKit

theorem markI_len {N : Nat} : ∀ {r : List Int} {t t' : List Bool}, markI N r t = some t' → t'.length = t.length
  | [], t, t', h => by simp [markI] at h; rw [h]
  | k :: r, t, t', h => by
    rw [markI] at h
    split at h
    · cases h
    · have := markI_len h
      simpa using this
theorem Sl.via {α : Type} {r : Rd α} {w wz wy : World} {A : Option Addr} {n c : Nat} {xs : List α} (h : Sl r (fun b => b < w.heap.size) wz A n c xs) (he : Ext w wz) (he' : Ext w wy) : Sl r (fun b => b < w.heap.size) wy A n c xs :=
  h.keep fun b hb _ => (he'.block b hb).trans (he.block b hb).symm
section
variable {F G H : Nat → Prop} {A B R : Option Addr} {m n p c c2 c3 : Nat} {d : List (List Int)} {r : List Int} {rs : List (List Int)} {stops : List (Int × Int)} {w : World}
theorem bGoes_v {dep cap lim : Int} {b : Bool} (h : goesB ⟨d, stops, cap, lim⟩ r = b) (hs : Sl rP F w A n c stops) (hd : Sl rT G w B m c2 d) (hr : Sl rI H w R p c3 r) (hl : ∀ x ∈ stops, 0 ≤ x.2 ∧ x.2 ≤ 2147483648) (hp : p ≤ 1000) :
    Calls Try.prog 33 #[.agg #[.int .i64 dep, .int .i64 cap, .int .i64 lim, .slice A n c], .slice B m c2, .slice R p c3] w fun e w' => e = .returned (.bool b) ∧ Ext w w' := by
  rw [← h]; exact bGoes_c dep cap lim hs hd hr hl hp
set_option maxRecDepth 100000 in
set_option maxHeartbeats 16000000 in
theorem bRight_c (dep cap lim : Int) (hs : Sl rP F w A n c stops) (hd : Sl rT G w B m c2 d) (hr : Sl rRows H w R p c3 rs) (hl : ∀ x ∈ stops, 0 ≤ x.2 ∧ x.2 ≤ 2147483648) (hn : n ≤ 1000) (hp : p ≤ 1000) (h1000 : ∀ r ∈ rs, r.length ≤ 1000) :
    Calls Try.prog 19 #[.agg #[.int .i64 dep, .int .i64 cap, .int .i64 lim, .slice A n c], .slice B m c2, .slice R p c3] w fun e w' => e = .returned (.bool (rightI ⟨d, stops, cap, lim⟩ rs)) ∧ Ext w w' := by
  obtain ⟨J, hJ⟩ : ∃ J : JD, J = ⟨d, stops, cap, lim⟩ := ⟨_, rfl⟩
  have HLS := Lib.hid hs.len
  have HL := Lib.hid hr.len
  have HLD := Lib.hid hl
  have H1000 := Lib.hid h1000
  have HJ := Lib.hid hJ
  have hJs : J.stops.length = n := by rw [hJ]; exact hs.len
  have HN := Lib.hid hJs
  rw [← hJ]
  have hm := hr.max
  have hle := hr.le
  unfold maxLen at hm
  have HS := fun W (h : Ext w W) => hs.ext h
  have HD := fun W (h : Ext w W) => hd.ext h
  have HR := fun W (h : Ext w W) => hr.lt.ext h
  clear hl h1000 hJ hJs hs hd hr
  go_enter Try.func19, Try.ntmps19
  go_wp2_with (at_make; refine wpL_make tyBools rfl (.tmp 16) (.tmp 16) rfl (n + 1) .i64 .i64 (by simp [Act.eval]) (by simp [Act.eval]) (by omega) ?_; intro w1 hb1 he1 hz1)
  all_goals first | (exfalso; omega) | skip
  have hbj : Blk w1 w.heap.size 33 #[.int .i64 dep, .int .i64 cap, .int .i64 lim, .slice A n c] := (Blk.new w _ _).ext he1
  have hg1 : w1.heap.size = w.heap.size + 2 := by rw [hz1]; simp
  have hb1' : Blk w1 (w.heap.size + 1) 4 ((List.replicate (n + 1) false).map Value.bool).toArray := by
    have h2 : (w.alloc (.cells #[.int .i64 dep, .int .i64 cap, .int .i64 lim, .slice A n c] 33)).heap.size = w.heap.size + 1 := by simp
    rw [h2] at hb1
    simpa [madeCells_one, Value.cells] using hb1
  have hE1 : Ext w w1 := Ext.trans (by repeat (first | exact Ext.refl _ | assumption | refine Ext.al ?_ | refine Ext.dr ?_ | refine Ext.dn ?_ | (refine Ext.st ?_ ?_; · first | omega | (simp; done) | (simp; omega)) | refine Ext.trans ?_ (by assumption))) he1
  clear hb1 he1 hz1
  go_loopw [8, 20] (fun cv i wr => ∃ (k q : Nat) (t : List Bool), k ≤ p ∧ i = .int .i64 k ∧ cv = .int .i64 q ∧ q ≤ 1000 * k ∧ Blk wr (w.heap.size + 1) 4 (t.map Value.bool).toArray ∧ Blk wr w.heap.size 33 #[.int .i64 dep, .int .i64 cap, .int .i64 lim, .slice A n c] ∧ Hid (t.length = n + 1) ∧ Hid (rightI J rs = rightGo J (rs.drop k) t q) ∧ Ext w wr) (fun _ i _ => p - (intOf i).toNat)
  case atStart => exact ⟨0, 0, List.replicate (n + 1) false, Nat.zero_le _, rfl, rfl, by omega, hb1', hbj, Lib.hid (by simp), Lib.hid (by rw [rightI, HN.out]; rfl), hE1⟩
  case round =>
    obtain ⟨k, q, t, hk, rfl, rfl, hq, hbt, hbx, htl, hu, he⟩ := hrel
    obtain ⟨wz, rfl⟩ : ∃ wz : World, wz = wr := ⟨_, rfl⟩
    clear hb1' hbj hE1
    by_cases hkp : k < p
    · obtain ⟨b, o, A2, n2, c4, r, rfl, hbl, hx, e1, hr2⟩ := (HR _ he).row hkp
      have e1' : wz.cell? ⟨b, o + k, none⟩ = some (.slice A2 n2 c4) := e1
      have hn2 : n2 ≤ 1000 := by rw [← hr2.len]; exact H1000.out r (List.mem_of_getElem? hx.out)
      have hst := hu.out.trans (rightGo_at hx.out)
      rw [HN.out] at hst
      have HL2 := Lib.hid hr2.len
      have hm2 := hr2.max
      have hle2 := hr2.le
      unfold maxLen at hm2
      clear e1 hx
      rcases Nat.eq_zero_or_pos n2 with h0 | h0
      · subst h0
        have hrn : r = [] := hr2.empty
        have HF : Hid (rightI J rs = false) := Lib.hid (by rw [hst, if_pos hrn])
        clear hst
        go_wp2_with fail
        all_goals first | (exfalso; omega) | skip
        go_ret
        exact ⟨by rw [HF.out]; rfl, he⟩
      · have hrn : r ≠ [] := fun e => by have := HL2.out; rw [e] at this; simp at this; omega
        rw [if_neg hrn] at hst
        have HST := Lib.hid hst
        have hn0 : ((n2 : Int) == 0) = false := by simp; omega
        clear hst hrn
        go_wp2_with fail
        all_goals first | (exfalso; omega) | skip
        go_loopw [8, 29] (fun cv i wr => ∃ (j : Nat) (t' : List Bool), j ≤ n2 ∧ i = .int .i64 j ∧ cv = .int .i64 ((q : Int) + j) ∧ Blk wr (w.heap.size + 1) 4 (t'.map Value.bool).toArray ∧ Blk wr w.heap.size 33 #[.int .i64 dep, .int .i64 cap, .int .i64 lim, .slice A n c] ∧ Hid (t'.length = n + 1) ∧ Hid (markI n r t = markI n (r.drop j) t') ∧ Ext w wr) (fun _ i _ => n2 - (intOf i).toNat)
        case atStart => exact ⟨0, t, Nat.zero_le _, rfl, by simp, hbt, hbx, htl, Lib.hid (by simp), he⟩
        case round =>
          obtain ⟨j, t', hj, rfl, rfl, hbt', hbx', htl', hu', he'⟩ := hrel
          obtain ⟨wy, rfl⟩ : ∃ wy : World, wy = wr := ⟨_, rfl⟩
          by_cases hjn : j < n2
          · have hry := hr2.via he he'
            obtain ⟨b2, o2, x, rfl, hbl2, hxx, c0, x0, x1⟩ := hry.int hjn
            have hst := hu'.out.trans (markI_at hxx.out)
            have hlw := hbt'.lt
            clear hxx hry
            by_cases hb1 : x < 1
            · have HF : Hid (rightI J rs = false) := Lib.hid (by rw [HST.out, hst, if_pos (.inl hb1)])
              clear hst hbt' hbx'
              go_wp2_with fail
              all_goals first | (exfalso; omega) | skip
              go_ret
              exact ⟨by rw [HF.out]; rfl, he'⟩
            · by_cases hb2 : (n : Int) < x
              · have HF : Hid (rightI J rs = false) := Lib.hid (by rw [HST.out, hst, if_pos (.inr (.inl hb2))])
                clear hst hbt' hbx'
                go_wp2_with fail
                all_goals first | (exfalso; omega) | skip
                go_ret
                exact ⟨by rw [HF.out]; rfl, he'⟩
              · obtain ⟨s, rfl⟩ := Int.eq_ofNat_of_zero_le (show 0 ≤ x by omega)
                have hsl : s < t'.length := by rw [htl'.out]; omega
                obtain ⟨tb, htb⟩ : ∃ tb, t'[s]? = some tb := ⟨_, List.getElem?_eq_getElem hsl⟩
                have cb : wy.cell? ⟨w.heap.size + 1, s, none⟩ = some (.bool tb) := by
                  rw [hbt'.cell, List.getElem?_toArray, List.getElem?_map, htb]
                  rfl
                have hfz := hbt'.frozen s
                have s1 : (s : Int) < (n : Int) + 1 := by omega
                have s2 : ((s : Int) < ((n + 1 : Nat) : Int)) := by omega
                have s3 : s < n + 1 := by omega
                rw [Int.toNat_natCast, htb] at hst
                cases tb with
                | true =>
                  have HF : Hid (rightI J rs = false) := Lib.hid (by rw [HST.out, hst, if_pos (.inr (.inr rfl))])
                  clear hst hbt' hbx' htb
                  go_wp2_with fail
                  all_goals first | (exfalso; omega) | skip
                  go_ret
                  exact ⟨by rw [HF.out]; rfl, he'⟩
                | false =>
                  have HM : Hid (markI n r t = markI n (r.drop (j + 1)) (t'.set s true)) := Lib.hid (by rw [hst, if_neg (by simp; omega)])
                  have HBT := Lib.hid hbt'
                  have HBX := Lib.hid hbx'
                  clear hst hbt' hbx' htb
                  go_wp2_with fail
                  all_goals first | (exfalso; omega) | skip
                  go_roundw
                  case rel => exact ⟨j + 1, t'.set s true, by omega, by go_num, by go_num, by rw [← set_bools]; exact HBT.out.set_ s _, Blk.far HBX.out (by simp) _, Lib.hid (by rw [List.length_set]; exact htl'.out), HM, (by repeat (first | exact Ext.refl _ | assumption | refine Ext.al ?_ | refine Ext.dr ?_ | refine Ext.dn ?_ | (refine Ext.st ?_ ?_; · first | omega | (simp; done) | (simp; omega)) | refine Ext.trans ?_ (by assumption)))⟩
                  case measure => simp [intOf]; omega
          · obtain rfl : j = n2 := by omega
            have hmk : markI n r t = some t' := by rw [hu'.out, List.drop_eq_nil_of_le (by rw [HL2.out]; omega)]; rfl
            obtain ⟨gb, hgb⟩ : ∃ gb, goesB J r = gb := ⟨_, rfl⟩
            have hst := HST.out
            rw [hmk] at hst
            simp only [hgb] at hst
            have HGB : Hid (goesB ⟨d, stops, cap, lim⟩ r = gb) := Lib.hid (by rw [← HJ.out]; exact hgb)
            have e0 : wy.cell? ⟨w.heap.size, 0, none⟩ = some (.int .i64 dep) := hbx'.cell 0
            have e1 : wy.cell? ⟨w.heap.size, 1, none⟩ = some (.int .i64 cap) := hbx'.cell 1
            have e2 : wy.cell? ⟨w.heap.size, 2, none⟩ = some (.int .i64 lim) := hbx'.cell 2
            have e3 : wy.cell? ⟨w.heap.size, 3, none⟩ = some (.slice A n c) := hbx'.cell 3
            have hry := hr2.via he he'
            have HHS := Lib.hid hst
            have HBT := Lib.hid hbt'
            have HBX := Lib.hid hbx'
            clear hmk hgb hst hbt' hbx' hr2
            go_wp2_with fail
            all_goals first | (exfalso; omega) | skip
            refine (bGoes_v HGB.out (HS _ he') (HD _ he') hry HLD.out hn2).mono ?_
            rintro e w5 ⟨rfl, he5⟩
            have hE5 := he'.trans he5
            clear e0 e1 e2 e3
            cases gb with
            | false =>
              have HF : Hid (rightI J rs = false) := Lib.hid (by rw [HHS.out]; rfl)
              go_wp2_with fail
              all_goals first | (exfalso; omega) | skip
              go_ret
              exact ⟨by rw [HF.out]; rfl, hE5⟩
            | true =>
              have HF : Hid (rightI J rs = rightGo J (rs.drop (k + 1)) t' (q + j)) := Lib.hid (by rw [HHS.out, HL2.out]; rfl)
              go_wp2_with fail
              all_goals first | (exfalso; omega) | skip
              go_roundw
              case rel => exact ⟨k + 1, q + j, t', by omega, by go_num, by go_num, by omega, HBT.out.ext he5, HBX.out.ext he5, htl', HF, hE5⟩
              case measure => simp [intOf]; omega
    · obtain rfl : k = p := by omega
      have HF : Hid (rightI J rs = decide (q = n)) := Lib.hid (by rw [hu.out, List.drop_eq_nil_of_le (by rw [HL.out]; omega), rightGo, HN.out])
      have e3 : wz.cell? ⟨w.heap.size, 3, none⟩ = some (.slice A n c) := hbx.cell 3
      go_wp2_with fail
      all_goals first | (exfalso; omega) | skip
      go_ret
      refine ⟨?_, he⟩
      rw [HF.out]
      by_cases hqn : q = n
      · simp [hqn]
      · have : ((q : Int) == (n : Int)) = false := by simp; omega
        simp [hqn, this]
end
end Go.Proofs.Ytmgokaancnifeaa
