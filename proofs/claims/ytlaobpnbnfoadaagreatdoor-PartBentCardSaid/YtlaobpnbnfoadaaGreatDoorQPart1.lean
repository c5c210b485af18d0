/-
  The document's own look at cells within cells, stepped through: most, checkLevel. Conditions: the readings of the slices, rows of few numbers.
-/
import Derived.Test.YtlaobpnbnfoadaaGreatDoorMgA
import Derived.Test.YtlaobpnbnfoadaaGreatDoorQNet7
import Derived.Test.YtlaobpnbnfoadaaGreatDoorMgB
namespace Go.Proofs.YtlaobpnbnfoadaaGreatDoor
set_option linter.unusedVariables false
set_option linter.unusedSimpArgs false
set_option linter.unusedSectionVars false
set_option linter.unnecessarySimpa false
open Go Go.RowKit

section
variable {F : Nat → Prop} {A : Option Addr} {n c : Nat} {xs : List Int} {w : World}
set_option maxHeartbeats 1000000 in
theorem most_c (hs : Sl rI F w A n c xs) (hx : ∀ x ∈ xs, -1000000 ≤ x ∧ x ≤ 1000000) :
    Calls Tryz.prog 44 #[.slice A n c] w fun e w' => e = .returned (.int .i64 (mostOf xs)) ∧ w = w' := by
  have hm := hs.max
  have hl := hs.le
  unfold maxLen at hm
  have HX := Lib.hid hx
  clear hx
  go_enter Tryz.func44, Tryz.ntmps44
  go_wp2_with fail
  go_loop [3, 4] (fun a i => ∃ k : Nat, k ≤ n ∧ i = .int .i64 k ∧ a = .int .i64 (mostOf (xs.take k))) (fun _ i => n - (intOf i).toNat)
  case atStart => exact ⟨0, Nat.zero_le _, rfl, rfl⟩
  case round =>
    obtain ⟨k, hk, rfl, rfl⟩ := hrel
    by_cases hkn : k < n
    · obtain ⟨b, o, x, rfl, hbl, hxx, c0, -, -⟩ := hs.int hkn
      obtain ⟨x0, x1⟩ := HX.out x (List.mem_of_getElem? hxx.out)
      have hsu := Lib.hid (mostOf_succ hxx.out)
      go_wp2_with fail
      all_goals first | (exfalso; omega) | skip
      go_round
      case rel => exact ⟨k + 1, by omega, by go_num, by rw [hsu.out]; congr 1; split <;> omega⟩
      case measure => simp [intOf]; omega
    · obtain rfl : k = n := by omega
      have ht : xs.take k = xs := List.take_of_length_le (by rw [hs.len]; omega)
      go_wp2_with fail
      all_goals first | (exfalso; omega) | skip
      go_ret
      exact ⟨rfl, rfl⟩
end
theorem LevelErr.e1 {n : Nat} {low : Option (List Int)} {row : List Int} {bound : Option Int} (h : row.length ≠ n) : LevelErr n low row bound 1 := .inl ⟨h, rfl⟩
theorem LevelErr.eIn {n : Nat} {low : Option (List Int)} {row : List Int} {bound : Option Int} (h : row.length = n) (h2 : ¬ InRow n row) : LevelErr n low row bound 10 := .inr (.inl ⟨h, .inl h2, rfl⟩)
theorem LevelErr.eFull {n : Nat} {low : Option (List Int)} {row : List Int} {bound : Option Int} (h : row.length = n) (h2 : ¬ FullRow row) : LevelErr n low row bound 10 := .inr (.inl ⟨h, .inr (.inl h2), rfl⟩)
theorem LevelErr.eNest {n : Nat} {low : Option (List Int)} {row l : List Int} {bound : Option Int} (h : row.length = n) (h2 : low = some l) (h3 : ¬ NestRow l row) : LevelErr n low row bound 10 := .inr (.inl ⟨h, .inr (.inr ⟨l, h2, h3⟩), rfl⟩)
theorem count_cell {zs : List Int} {m j : Nat} {w : World} {g : Nat} {t : TypeId} (h : Blk w g t ((tal zs m).map (Value.int .i64)).toArray) (hj : j < m) : w.cell? ⟨g, j, none⟩ = some (.int .i64 (zs.count (j : Int) : Nat)) := by
  rw [h.cell]
  simp [tal_get hj]
section
variable {F G : Nat → Prop} {A B : Option Addr} {n c m d nv k : Nat} {p : List (List Int)} {bs row : List Int} {w : World}
set_option maxRecDepth 100000 in
set_option maxHeartbeats 4000000 in
theorem checkLevel_c (hp : Sl rRows F w A n c p) (hb : Sl rI G w B m d bs) (hnv : nv ≤ 4096) (hk : p[k]? = some row) (hlow : ∀ l, 0 < k → p[k - 1]? = some l → l.length = nv) (hbk : m = 0 ∨ k < m) :
    Calls Tryz.prog 41 #[.int .i64 nv, .agg #[.slice A n c], .int .i64 ((k : Int) + 1), .slice B m d] w fun e w' => ∃ err, e = .returned (.int .i64 err) ∧ LevelErr nv (if k = 0 then none else p[k - 1]?) row (bs[k]?) err ∧ Ext w w' := by
  have hkn : k < n := by rw [← hp.len]; exact (List.getElem?_eq_some_iff.1 hk).1
  have hm := hp.max
  have hl := hp.le
  unfold maxLen at hm
  have hbm := hb.le
  have hbl := hb.len
  obtain ⟨b, o, A1, n1, c1, row', hA, hbk1, hx, e1, hr⟩ := hp.row hkn
  obtain rfl : row' = row := Option.some.inj (hx.out.symm.trans hk)
  have hrl := hr.len
  subst hA
  have HLOW := Lib.hid hlow
  have HK := Lib.hid hk
  have HB := Lib.hid hbl
  clear hlow hk hx hbl
  obtain ⟨low, hlo⟩ : ∃ low, (if k = 0 then none else p[k - 1]?) = low := ⟨_, rfl⟩
  rw [hlo]
  have HLO := Lib.hid hlo
  clear hlo
  by_cases hlen : n1 = nv
  · subst hlen
    have HRL := Lib.hid hrl
    clear hrl
    go_enter Tryz.func41, Tryz.ntmps41
    go_wp2_with fail
    all_goals first | (exfalso; omega) | skip
    go_loop [10] (fun i => ∃ j : Nat, j ≤ n1 ∧ i = .int .i64 j ∧ Hid (∀ i x, i < j → row'[i]? = some x → 0 ≤ x ∧ x < (n1 : Int))) (fun i => n1 - (intOf i).toNat)
    case atStart => exact ⟨0, Nat.zero_le _, rfl, fun i x hi => absurd hi (by omega)⟩
    case round =>
      obtain ⟨j, hj, rfl, hs1⟩ := hrel
      by_cases hjn : j < n1
      · obtain ⟨b2, o2, x, rfl, hb2, hxx, g0, -, -⟩ := hr.int hjn
        by_cases hxr : 0 ≤ x ∧ x < (n1 : Int)
        · go_wp2_with fail
          all_goals first | (exfalso; omega) | skip
          go_round
          case rel => exact ⟨j + 1, by omega, by go_num, fun i y hi hy => by
            by_cases e : i = j
            · subst e; rw [hxx.out] at hy; injection hy with hy; subst hy; exact hxr
            · exact hs1.out i y (by omega) hy⟩
          case measure => simp [intOf]; omega
        · have hni : ¬ InRow n1 row' := fun h => hxr (h x (List.mem_of_getElem? hxx.out))
          go_wp2_with fail
          all_goals first | (exfalso; omega) | skip
          all_goals go_ret
          all_goals exact ⟨_, rfl, LevelErr.eIn HRL.out hni, (by repeat (first | exact Ext.refl _ | assumption | refine Ext.al ?_ | refine Ext.dr ?_ | refine Ext.dn ?_ | (refine Ext.st ?_ ?_; · first | omega | (simp; done) | (simp; omega)) | refine Ext.trans ?_ (by assumption)))⟩
      · obtain rfl : j = n1 := by omega
        have hin : InRow j row' := fun x hx => by
          obtain ⟨i, hi⟩ := List.getElem?_of_mem hx
          exact hs1.out i x (by rw [← HRL.out]; exact (List.getElem?_eq_some_iff.1 hi).1) hi
        have HIN := Lib.hid hin
        clear hin hs1
        go_wp2_with (at_make; refine wpL_make tyInts rfl (.tmp 45) (.tmp 45) rfl j .i64 .i64 rfl rfl (by omega) ?_; intro w1 hb1 he1 hz1; obtain ⟨hc1, hf1⟩ := bcell he1; simp only [World.size_alloc] at hz1)
        all_goals first | (exfalso; omega) | skip
        have hE1 : Ext w w1 := Ext.trans (Ext.al (Ext.refl w)) he1
        have r0 : w1.cell? ⟨w.heap.size, 0, none⟩ = some (.slice (some ⟨b, o, none⟩) n c) := (he1.cell (p := ⟨w.heap.size, 0, none⟩) (by simp)).trans (by simp)
        have hb1' : Blk w1 (w.heap.size + 1) 3 ((tal (row'.take 0) j).map (Value.int .i64)).toArray := by
          rw [List.take_zero, tal_nil]; simpa [madeCells_one, Value.cells] using hb1
        have hz1a : w.heap.size + 2 ≤ w1.heap.size := by omega
        clear hb1 he1 hc1 hf1 hz1
        go_loopw [12] (fun i wr => ∃ k : Nat, k ≤ j ∧ i = .int .i64 k ∧ Blk wr (w.heap.size + 1) 3 ((tal (row'.take k) j).map (Value.int .i64)).toArray ∧ Below (w.heap.size + 1) w1 wr) (fun i _ => j - (intOf i).toNat)
        case atStart => exact ⟨0, Nat.zero_le _, rfl, hb1', Below.refl _ _⟩
        case round =>
          obtain ⟨t, ht, rfl, hbt, hbel⟩ := hrel
          have hwz := hbel.size
          by_cases htn : t < j
          · have g1 := ((hr.lt.ext hE1).mono (G := fun b => b < w.heap.size + 1) (fun b h _ => by omega)).below hbel (fun _ h _ => h)
            obtain ⟨b2, o2, x, rfl, hb2, hxx, g0, -, -⟩ := g1.int htn
            obtain ⟨x0, x1⟩ := HIN.out x (List.mem_of_getElem? hxx.out)
            obtain ⟨x, rfl⟩ := Int.eq_ofNat_of_zero_le x0
            have hcell := count_cell hbt (show x < j by omega)
            have hcle : (row'.take t).count (x : Int) ≤ j := Nat.le_trans List.count_le_length (by simp; omega)
            have hsu : tal (row'.take (t + 1)) j = (tal (row'.take t) j).set x (((row'.take t).count (x : Int) : Nat) + 1) := by
              rw [List.take_add_one, hxx.out, Option.toList_some, tal_succ (by omega)]
            generalize (row'.take t).count (x : Int) = ct at hcell hcle hsu
            have HSU := Lib.hid hsu
            have hf := hbt.frozen x
            have hlt := hbt.lt
            clear hsu
            go_wp2_with fail
            all_goals first | (exfalso; omega) | skip
            go_roundw
            case rel => exact ⟨t + 1, by omega, by go_num, by rw [HSU.out, ← set_ints]; exact (by repeat (first | assumption | refine Blk.set_ ?_ _ _ | refine Blk.alloc ?_ _ | refine Blk.drewN ?_ _ | (refine Blk.far ?_ ?_ _; rotate_left; · first | omega | (simp; done) | (simp; omega)))), (by repeat (first | assumption | exact Below.refl _ _ | refine below_drewN ?_ _ | (refine Below.alloc ?_ ?_ _; rotate_left; · first | omega | (simp; done) | (simp; omega)) | (refine Below.setCell ?_ ?_ _; rotate_left; · first | omega | (simp; done) | (simp; omega))))⟩
            case measure => simp [intOf]; omega
          · obtain rfl : t = j := by omega
            have htk : row'.take t = row' := List.take_of_length_le (by rw [HRL.out]; omega)
            rw [htk] at hbt
            have hE2 : Ext w wr := Below.trans hE1 (hbel.mono (by omega))
            have r0' := (hbel.cell (p := ⟨w.heap.size, 0, none⟩) (by simp)).trans r0
            have hrr := hr.ext hE2
            have l0 : w.heap.size < wr.heap.size := by omega
            have l1 := hbt.lt
            have hsm : ∀ x ∈ row', -1000000 ≤ x ∧ x ≤ 1000000 := fun x hx => by have := HIN.out x hx; omega
            have HSM := Lib.hid hsm
            have hmo : mostOf row' ≤ t := mostOf_le (by omega) fun x hx => (HIN.out x hx).2
            have hmo0 := mostOf_nonneg row'
            clear hsm hbel r0 hE1 htk hb1'
            obtain ⟨w2, rfl⟩ : ∃ w2 : World, w2 = wr := ⟨_, rfl⟩
            go_wp2_with fail
            go_loop [13] (fun i => ∃ j : Nat, (j : Int) ≤ mostOf row' ∧ i = .int .i64 j ∧ Hid (∀ i : Nat, i < j → (i : Int) ∈ row')) (fun i => (mostOf row').toNat - (intOf i).toNat)
            case atStart => exact ⟨0, hmo0, rfl, fun i hi => absurd hi (by omega)⟩
            case round =>
              obtain ⟨j, hj, rfl, hs3⟩ := hrel
              by_cases hjn : (j : Int) < mostOf row'
              · have hcell := count_cell hbt (show j < t by omega)
                obtain ⟨ct, hct⟩ : ∃ ct, row'.count (j : Int) = ct := ⟨_, rfl⟩
                rw [hct] at hcell
                have HCT := Lib.hid hct
                clear hct
                by_cases h0 : ct = 0
                · have hd : ((ct : Int) == 0) = true := by simp [h0]
                  have hni : ¬ FullRow row' := fun h => by
                    have := List.count_pos_iff.2 (h j (by omega) hjn)
                    rw [HCT.out] at this
                    omega
                  go_wp2_with (go_at_call 44; refine (most_c hrr HSM.out).mono ?_; rintro e w' ⟨rfl, rfl⟩)
                  all_goals first | (exfalso; omega) | skip
                  go_ret
                  exact ⟨_, rfl, LevelErr.eFull HRL.out hni, hE2⟩
                · have hd : ((ct : Int) == 0) = false := by simp; omega
                  go_wp2_with (go_at_call 44; refine (most_c hrr HSM.out).mono ?_; rintro e w' ⟨rfl, rfl⟩)
                  all_goals first | (exfalso; omega) | skip
                  go_round
                  case rel => exact ⟨j + 1, by omega, by go_num, fun i hi => by
                    by_cases e : i = j
                    · subst e; exact List.count_pos_iff.1 (by rw [HCT.out]; omega)
                    · exact hs3.out i (by omega)⟩
                  case measure => simp [intOf]; omega
              · have hje : (j : Int) = mostOf row' := by omega
                have hfull : FullRow row' := fun c h0 h1 => by
                  obtain ⟨c, rfl⟩ := Int.eq_ofNat_of_zero_le h0
                  exact hs3.out c (by omega)
                have HFULL := Lib.hid hfull
                clear hfull hs3
                go_wp2_with (go_at_call 44; refine (most_c hrr HSM.out).mono ?_; rintro e w' ⟨rfl, rfl⟩)
                all_goals first | (exfalso; omega) | skip
                go_loopw [14] (fun i wr => ∃ a q : Nat, a ≤ t ∧ i = .int .i64 a ∧ wr = w2.drewN q ∧ Hid (0 < k → ∀ l, p[k - 1]? = some l → ∀ (a' b' : Nat) (x y x' y' : Int), a' < a → l[a']? = some x → l[b']? = some y → row'[a']? = some x' → row'[b']? = some y' → x ≤ y → x' ≤ y')) (fun i _ => t - (intOf i).toNat)
                case atStart => exact ⟨0, 0, Nat.zero_le _, rfl, rfl, fun _ _ _ a' _ _ _ _ _ h => absurd h (by omega)⟩
                case round =>
                  obtain ⟨a, q, ha, rfl, rfl, hs4⟩ := hrel
                  by_cases hat : a < t ∧ 0 < k
                  · obtain ⟨hat, hk0⟩ := hat
                    obtain ⟨k, rfl⟩ : ∃ k' : Nat, k = k' + 1 := ⟨k - 1, by omega⟩
                    obtain ⟨b3, o3, A3, n3, c3, lo, hA3, hb3, hxl, e3, hr3⟩ := (hp.ext hE2).row (k := k) (by omega)
                    injection hA3 with hA3
                    injection hA3 with ea eb
                    subst ea eb
                    have hl3 := HLOW.out lo (by omega) (by simpa using hxl.out)
                    rw [hr3.len] at hl3
                    subst hl3
                    obtain ⟨b5, o5, xa, hA5, hb5, hxa, e5, -, -⟩ := hr3.int hat
                    subst hA5
                    obtain ⟨b6, o6, xa', hA6, hb6, hxa', e6, -, -⟩ := hrr.int hat
                    subst hA6
                    go_wp2_with fail
                    all_goals first | (exfalso; omega) | skip
                    go_loopw [15] (fun i wr => ∃ b q : Nat, b ≤ n3 ∧ i = .int .i64 b ∧ wr = w2.drewN q ∧ Hid (∀ (b' : Nat) (y y' : Int), b' < b → lo[b']? = some y → row'[b']? = some y' → xa ≤ y → xa' ≤ y')) (fun i _ => n3 - (intOf i).toNat)
                    case atStart => exact ⟨0, _, Nat.zero_le _, rfl, rfl, fun b' _ _ h => absurd h (by omega)⟩
                    case round =>
                      obtain ⟨bb, q2, hbb, rfl, rfl, hs5⟩ := hrel
                      by_cases hbn : bb < n3
                      · obtain ⟨b7, o7, xb, hA7, hb7, hxb, e7, -, -⟩ := hr3.int hbn
                        injection hA7 with hA7
                        injection hA7 with ea eb
                        subst ea eb
                        obtain ⟨b8, o8, xb', hA8, hb8, hxb', e8, -, -⟩ := hrr.int hbn
                        injection hA8 with hA8
                        injection hA8 with ea eb
                        subst ea eb
                        by_cases hle : xa ≤ xb
                        · have hd1 : decide (xa ≤ xb) = true := by simpa using hle
                          by_cases hgt : xb' < xa'
                          · have hd2 : decide (xb' < xa') = true := by simpa using hgt
                            have hni : ¬ NestRow lo row' := fun h => by
                              have := h a bb xa xb xa' xb' hxa.out hxb.out hxa'.out hxb'.out hle
                              omega
                            go_wp2_with (go_quiet (fail))
                            all_goals first | (exfalso; omega) | skip
                            go_ret
                            exact ⟨_, rfl, LevelErr.eNest (l := lo) HRL.out (by rw [← HLO.out]; simpa using hxl.out) hni, (by first | exact Ext.dn hE2 | exact Ext.dn (Ext.dn hE2))⟩
                          · have hd2 : decide (xb' < xa') = false := by simpa using hgt
                            go_wp2_with (go_quiet (fail))
                            all_goals first | (exfalso; omega) | skip
                            go_roundw
                            case rel => exact ⟨bb + 1, _, by omega, by go_num, (by first | exact rfl | exact World.drewN_drewN _ _ _), fun b' y y' h h1 h2 h3 => by
                              by_cases e : b' = bb
                              · subst e
                                rw [hxb'.out] at h2; injection h2 with h2; subst h2; omega
                              · exact hs5.out b' y y' (by omega) h1 h2 h3⟩
                            case measure => simp [intOf]; omega
                        · have hd1 : decide (xa ≤ xb) = false := by simpa using hle
                          go_wp2_with (go_quiet (fail))
                          all_goals first | (exfalso; omega) | skip
                          go_roundw
                          case rel => exact ⟨bb + 1, _, by omega, by go_num, (by first | exact rfl | exact World.drewN_drewN _ _ _), fun b' y y' h h1 h2 h3 => by
                            by_cases e : b' = bb
                            · subst e
                              rw [hxb.out] at h1; injection h1 with h1; subst h1; exact absurd h3 hle
                            · exact hs5.out b' y y' (by omega) h1 h2 h3⟩
                          case measure => simp [intOf]; omega
                      · obtain rfl : bb = n3 := by omega
                        have hL3 : row'.length = bb := HRL.out
                        go_wp2_with fail
                        all_goals first | (exfalso; omega) | skip
                        refine ⟨?_, ?measure⟩
                        (repeat apply Exists.intro)
                        refine ⟨?rel, rfl⟩
                        case rel => exact ⟨a + 1, _, by omega, by go_num, rfl, fun _ l hl a' b' x y x' y' h h1 h2 h3 h4 h5 => by
                          by_cases e : a' = a
                          · subst e
                            obtain rfl : l = lo := Option.some.inj (hl.symm.trans (by simpa using hxl.out))
                            rw [hxa.out] at h1; injection h1 with h1; subst h1
                            rw [hxa'.out] at h3; injection h3 with h3; subst h3
                            exact hs5.out b' y y' (by rw [← hL3]; exact (List.getElem?_eq_some_iff.1 h4).1) h2 h4 h5
                          · exact hs4.out (by omega) l hl a' b' x y x' y' (by omega) h1 h2 h3 h4 h5⟩
                        case measure => simp [intOf]; omega
                  · have hnest : ∀ l, low = some l → NestRow l row' := fun l hl => by
                      rw [← HLO.out] at hl
                      by_cases hk0 : k = 0
                      · simp [hk0] at hl
                      · rw [if_neg hk0] at hl
                        intro a' b' x y x' y' h1 h2 h3 h4 h5
                        exact hs4.out (by omega) l hl a' b' x y x' y' (by have := (List.getElem?_eq_some_iff.1 h3).1; rw [HRL.out] at this; omega) h1 h2 h3 h4 h5
                    have HN := Lib.hid hnest
                    clear hnest hs4
                    go_wp2_with fail
                    all_goals first | (exfalso; omega) | skip
                    all_goals
                      go_loopw [16] (fun i wr => ∃ a q : Nat, a ≤ t ∧ i = .int .i64 a ∧ wr = w2.drewN q ∧ Hid (∀ b, bs[k]? = some b → ∀ a' : Nat, a' < a → (a' : Int) ∈ row' → (row'.count (a' : Int) : Int) ≤ b)) (fun i _ => t - (intOf i).toNat)
                      case atStart => exact ⟨0, _, Nat.zero_le _, rfl, rfl, fun _ _ a' h => absurd h (by omega)⟩
                      case round =>
                        obtain ⟨a, q, ha, rfl, rfl, hs6⟩ := hrel
                        by_cases hat : a < t ∧ 0 < m
                        · obtain ⟨hat, hm0⟩ := hat
                          obtain ⟨bB, oB, y, hAB, hbB, hxB, eB, y0, y1⟩ := (hb.ext hE2).int (k := k) (by omega)
                          subst hAB
                          have hcell := count_cell hbt hat
                          have hpos : 0 < row'.count (a : Int) ↔ (a : Int) ∈ row' := List.count_pos_iff
                          obtain ⟨ct, hct⟩ : ∃ ct, row'.count (a : Int) = ct := ⟨_, rfl⟩
                          rw [hct] at hcell hpos
                          have HCT := Lib.hid hct
                          have HPOS := Lib.hid hpos
                          clear hct hpos
                          by_cases hc0 : 0 < ct
                          · have hd1 : decide ((0 : Int) < (ct : Int)) = true := by simp; omega
                            by_cases hgt : y < (ct : Int)
                            · have hd2 : decide (y < (ct : Int)) = true := by simpa using hgt
                              have hni : ¬ WithinRow row' y := fun h => by
                                have := h (a : Int) (HPOS.out.1 hc0)
                                rw [HCT.out] at this
                                omega
                              go_wp2_with (go_quiet (fail))
                              all_goals first | (exfalso; omega) | skip
                              go_ret
                              exact ⟨_, rfl, .inr (.inr (.inl ⟨HRL.out, HIN.out, HFULL.out, HN.out, ⟨y, hxB.out, hni⟩, rfl⟩)), (by first | exact Ext.dn hE2 | exact Ext.dn (Ext.dn hE2))⟩
                            · have hd2 : decide (y < (ct : Int)) = false := by simpa using hgt
                              go_wp2_with (go_quiet (fail))
                              all_goals first | (exfalso; omega) | skip
                              go_roundw
                              case rel => exact ⟨a + 1, _, by omega, by go_num, (by first | exact rfl | exact World.drewN_drewN _ _ _), fun b hb a' h h1 => by
                                by_cases e : a' = a
                                · subst e
                                  rw [HCT.out]
                                  rw [hxB.out] at hb; injection hb with hb; subst hb; omega
                                · exact hs6.out b hb a' (by omega) h1⟩
                              case measure => simp [intOf]; omega
                          · have hd1 : decide ((0 : Int) < (ct : Int)) = false := by simp; omega
                            go_wp2_with (go_quiet (fail))
                            all_goals first | (exfalso; omega) | skip
                            go_roundw
                            case rel => exact ⟨a + 1, _, by omega, by go_num, (by first | exact rfl | exact World.drewN_drewN _ _ _), fun b hb a' h h1 => by
                              by_cases e : a' = a
                              · subst e
                                exact absurd (HPOS.out.2 h1) hc0
                              · exact hs6.out b hb a' (by omega) h1⟩
                            case measure => simp [intOf]; omega
                        · have hwi : ∀ b, bs[k]? = some b → WithinRow row' b := fun b hbb x hx => by
                            have h1 := (List.getElem?_eq_some_iff.1 hbb).1
                            rw [HB.out] at h1
                            obtain ⟨x0, x1⟩ := HIN.out x hx
                            obtain ⟨x, rfl⟩ := Int.eq_ofNat_of_zero_le x0
                            exact hs6.out b hbb x (by omega) hx
                          go_wp2_with fail
                          all_goals first | (exfalso; omega) | skip
                          all_goals go_ret
                          all_goals exact ⟨_, rfl, .inr (.inr (.inr ⟨HRL.out, HIN.out, HFULL.out, HN.out, hwi, rfl⟩)), (by first | exact Ext.dn hE2 | exact Ext.dn (Ext.dn hE2))⟩
  · have hb : ((n1 : Int) != (nv : Int)) = true := by simp; omega
    go_enter Tryz.func41, Tryz.ntmps41
    go_wp2_with fail
    all_goals first | (exfalso; omega) | skip
    go_ret
    exact ⟨_, rfl, LevelErr.e1 (by omega), (by repeat (first | exact Ext.refl _ | assumption | refine Ext.al ?_ | refine Ext.dr ?_ | refine Ext.dn ?_ | (refine Ext.st ?_ ?_; · first | omega | (simp; done) | (simp; omega)) | refine Ext.trans ?_ (by assumption)))⟩
end
end Go.Proofs.YtlaobpnbnfoadaaGreatDoor
