/-
  PartNested, stepped through: it returns true. Conditions: the readings; errors.errorType holds its type.
-/
import Derived.Test.YtlaobpnbnfoadaaGreatDoorQ25
import Derived.Test.YtlaobpnbnfoadaaGreatDoorQ17
import Derived.Test.YtlaobpnbnfoadaaGreatDoorQ28
namespace Go.Proofs.YtlaobpnbnfoadaaGreatDoor
set_option linter.unusedVariables false
set_option linter.unusedSimpArgs false
set_option linter.unusedSectionVars false
set_option linter.unnecessarySimpa false
open Go Go.RowKit

theorem take_sum (f : Int → Nat) : ∀ (l : List Int) (i : Nat), ((l.take i).map f).sum ≤ (l.map f).sum
  | [], i => by simp
  | x :: l, 0 => by simp
  | x :: l, i + 1 => by
    have := take_sum f l i
    simp only [List.take_succ_cons, List.map_cons, List.sum_cons]
    omega
theorem take_sum_succ (f : Int → Nat) {l : List Int} {i : Nat} {x : Int} (h : l[i]? = some x) : ((l.take (i + 1)).map f).sum = ((l.take i).map f).sum + f x := by
  rw [List.take_add_one, h]
  simp
section
variable {F G : Nat → Prop} {A B : Option Addr} {n c m d : Nat} {p : List (List Int)} {bs : List Int} {w : World}
set_option maxRecDepth 100000 in
set_option maxHeartbeats 16000000 in
theorem partnested_c (nv : Int) (hp : Sl rRows F w A n c p) (hg : HandleIs w) :
    Calls Tryz.prog 5 #[.int .i64 nv, .agg #[.slice A n c]] w fun e w' => e = .returned (.bool true) ∧ Ext w w' := by
  have HP := Lib.hid hp.lt
  have HG := Lib.hid hg
  clear hp hg
  go_enter Tryz.func5, Tryz.ntmps5
  go_wp2_with fail
  refine (known13_c (HG.out.ext (by repeat (first | exact Ext.refl _ | assumption | refine Ext.al ?_ | refine Ext.dr ?_ | refine Ext.dn ?_ | (refine Ext.st ?_ ?_; · first | omega | (simp; done) | (simp; omega)) | refine Ext.trans ?_ (by assumption))))).mono ?_
  rintro e w1 ⟨rfl, he1⟩
  have hE1 : Ext w w1 := Ext.trans (by repeat (first | exact Ext.refl _ | assumption | refine Ext.al ?_ | refine Ext.dr ?_ | refine Ext.dn ?_ | (refine Ext.st ?_ ?_; · first | omega | (simp; done) | (simp; omega)) | refine Ext.trans ?_ (by assumption))) he1
  have q1 : w1.cell? ⟨w.heap.size, 0, none⟩ = some (.slice A n c) := (he1.cell (p := ⟨w.heap.size, 0, none⟩) (by simp)).trans (by simp)
  clear he1
  go_wp2_with fail
  all_goals first | (exfalso; omega) | skip
  refine (partMayG_c nv (HP.out.ext hE1)).mono ?_
  rintro e w2 ⟨bb, rfl, hmay, he2⟩
  have hE2 := hE1.trans he2
  have q2 := (he2.cell (p := ⟨w.heap.size, 0, none⟩) (cell_lt2 q1)).trans q1
  have HM := Lib.hid hmay
  clear he2 q1 hE1 hmay
  cases bb with
  | false =>
    go_wp2_with fail
    all_goals first | (exfalso; omega) | skip
    go_ret
    exact ⟨rfl, hE2⟩
  | true =>
    obtain ⟨h0, h60, hok⟩ := HM.out rfl
    obtain ⟨v, rfl⟩ := Int.eq_ofNat_of_zero_le h0
    rw [Int.toNat_natCast] at hok
    have hnv60 : v ≤ 60 := by omega
    have HOK := Lib.hid hok
    have HROWS := Lib.hid hok.rows
    have hn6 : n ≤ 6 := by have := hok.few; have := HP.out.len; omega
    have HN := Lib.hid HP.out.len
    have HLV : Hid (∀ l : Int, (lvl p l).length ≤ 60 ∧ ∀ x ∈ lvl p l, -1000000 ≤ x ∧ x ≤ 1000000) := Lib.hid fun l => by
      refine ⟨?_, fun x hx => ?_⟩
      · by_cases h : 1 ≤ l ∧ l ≤ p.length
        · obtain ⟨k, -, r, hr, e⟩ := lvl_in h.1 h.2
          rw [e, hok.rows r (List.mem_of_getElem? hr)]; omega
        · rw [lvl_out h]; simp
      · have := lvl_in_bd hok l x hx; omega
    clear hok h0 h60 HM
    go_wp2_with fail
    all_goals first | (exfalso; omega) | skip
    refine (law13To_c (HP.out.ext hE2) (by omega) (fun x hx => by rw [HROWS.out x hx]; omega)).mono ?_
    rintro e w3' ⟨A3, n3, c3, rfl, hq, he3⟩
    have HQ' := Lib.hid hq
    have q3' := (he3.cell (p := ⟨w.heap.size, 0, none⟩) (cell_lt2 q2)).trans q2
    have hE3' := hE2.trans he3
    clear hq he3 q2 hE2
    go_wp2_with fail
    go_upto_region 6 with fail
    obtain ⟨w3, hw3⟩ : ∃ w3 : World, w3 = w3'.alloc (.cells #[.slice A3 n3 c3] 32) := ⟨_, rfl⟩
    have hx3 : Ext w3' w3 := by rw [hw3]; exact (by repeat (first | exact Ext.refl _ | assumption | refine Ext.al ?_ | refine Ext.dr ?_ | refine Ext.dn ?_ | (refine Ext.st ?_ ?_; · first | omega | (simp; done) | (simp; omega)) | refine Ext.trans ?_ (by assumption)))
    have qq : w3.cell? ⟨w3'.heap.size, 0, none⟩ = some (.slice A3 n3 c3) := by rw [hw3]; simp
    rw [← hw3]
    obtain ⟨gq, hgq⟩ : ∃ gq, w3'.heap.size = gq := ⟨_, rfl⟩
    rw [hgq] at qq ⊢
    have q3 := (hx3.cell (p := ⟨w.heap.size, 0, none⟩) (cell_lt2 q3')).trans q3'
    have hE3 := hE3'.trans hx3
    have HQ := Lib.hid (HQ'.out.ext hx3)
    have hn3 : n3 ≤ 1000 := by rw [← HQ'.out.len, HP.out.len]; omega
    clear hw3 hgq hx3 q3' hE3' HQ'
    go_wp2_with fail
    go_loopw [6] (fun iv wr => ∃ l : Int, 1 ≤ l ∧ l ≤ n + 1 ∧ iv = .int .i64 l ∧ Ext w3 wr) (fun iv _ => n + 1 - (intOf iv).toNat)
    case atStart => exact ⟨1, by omega, by omega, rfl, Ext.refl _⟩
    case round =>
      obtain ⟨l, hl1, hl2, rfl, he⟩ := hrel
      obtain ⟨wy, rfl⟩ : ∃ wy : World, wy = wr := ⟨_, rfl⟩
      have qy := (he.cell (p := ⟨w.heap.size, 0, none⟩) (cell_lt2 q3)).trans q3
      have qqy := (he.cell (p := ⟨gq, 0, none⟩) (cell_lt2 qq)).trans qq
      by_cases hln : l ≤ n
      · obtain ⟨kd, hk0, hkM, hkn, hkc⟩ := nested_law HOK.out hl1 (by rw [HN.out]; exact hln)
        have HK0 := Lib.hid hk0
        have HKM := Lib.hid hkM
        have HKN := Lib.hid hkn
        have HKC := Lib.hid hkc
        clear hk0 hkM hkn hkc
        obtain ⟨M, hM⟩ : ∃ M : Nat, mostOf (lvl p l) = M := Int.eq_ofNat_of_zero_le (mostOf_nonneg _)
        have HMo := Lib.hid hM
        have hM60 : M ≤ 60 := by
          have := mostOf_le (row := lvl p l) (n := 60) (by omega) fun x hx => by have := lvl_in_bd HOK.out l x hx; omega
          omega
        have HLEN : Hid ((lvl p l).length = v) := Lib.hid (by
          obtain ⟨k, -, r, hr, e⟩ := lvl_in hl1 (by rw [HN.out]; exact hln)
          rw [e, HROWS.out r (List.mem_of_getElem? hr)])
        have HFULL : Hid (FullRow (lvl p l)) := Lib.hid (by
          obtain ⟨k, -, r, hr, e⟩ := lvl_in hl1 (by rw [HN.out]; exact hln)
          rw [e]; exact HOK.out.full r (List.mem_of_getElem? hr))
        have HIN := Lib.hid (lvl_in_bd HOK.out l)
        have hwl : IntKind.i64.wrap (l - 1) = l - 1 := IntWalk.i64_in _ (by omega)
        clear hM
        go_wp2_with fail
        all_goals first | (exfalso; omega) | skip
        go_loopw [7, 8, 9] (fun sv kv iv wr => ∃ (cc s kk : Nat), cc ≤ M ∧ s ≤ 60 ∧ kk ≤ 60 ∧ sv = .int .i64 s ∧ kv = .int .i64 kk ∧ iv = .int .i64 cc ∧ Hid (cntLt (lvl p l) cc = s ∧ kd cc = kk) ∧ Ext w3 wr) (fun _ _ iv _ => M - (intOf iv).toNat)
        case atStart => exact ⟨0, 0, 0, Nat.zero_le _, Nat.zero_le _, Nat.zero_le _, rfl, rfl, rfl, Lib.hid ⟨cntLt_zero fun x hx => (HIN.out x hx).1, HK0.out⟩, he⟩
        case round =>
          obtain ⟨cc, s, kk, hc, hs60, hk60, rfl, rfl, rfl, hst, hez⟩ := hrel
          obtain ⟨wx, rfl⟩ : ∃ wx : World, wx = wr := ⟨_, rfl⟩
          have qx := (hez.cell (p := ⟨w.heap.size, 0, none⟩) (cell_lt2 q3)).trans q3
          have qqx := (hez.cell (p := ⟨gq, 0, none⟩) (cell_lt2 qq)).trans qq
          go_wp2_with fail
          all_goals first | (exfalso; omega) | skip
          refine (Count_c l (HQ.out.ext hez) (HLV.out l).2).mono ?_
          rintro e w4 ⟨rfl, he4⟩
          rw [HMo.out]
          have hE4 := hez.trans he4
          have qq4 := (he4.cell (p := ⟨gq, 0, none⟩) (cell_lt2 qqx)).trans qqx
          have q4 := (he4.cell (p := ⟨w.heap.size, 0, none⟩) (cell_lt2 qx)).trans qx
          clear he4 qx qqx hez
          by_cases hcM : cc < M
          · go_wp2_with fail
            all_goals first | (exfalso; omega) | skip
            refine (Of_c l (cc : Int) (HQ.out.ext hE4) (by have := (HLV.out l).1; omega)).mono ?_
            rintro e w5 ⟨A5, m5, c5, rfl, hs5, he5⟩
            have hE5 := hE4.trans he5
            have qq5 := (he5.cell (p := ⟨gq, 0, none⟩) (cell_lt2 qq4)).trans qq4
            have q5 := (he5.cell (p := ⟨w.heap.size, 0, none⟩) (cell_lt2 q4)).trans q4
            have hl5 := hs5.len
            rw [ofI_len] at hl5
            have HL5 := Lib.hid hl5
            have hm5 : 0 < m5 := by
              rw [← hl5]
              exact List.count_pos_iff.2 (HFULL.out cc (by omega) (by rw [HMo.out]; omega))
            have hsplit : s + m5 ≤ 60 := by
              have h1 := cntLt_le (lvl p l) ((cc : Int) + 1)
              rw [cntLt_succ, hst.out.1, hl5] at h1
              have := (HLV.out l).1
              omega
            have ht5 : ((m5 : Int) == 0) = false := by simp; omega
            clear hs5 hl5 he5 q4 qq4 hE4
            go_wp2_with fail
            all_goals first | (exfalso; omega) | skip
            refine (kids_c l (cc : Int) (HQ.out.ext hE5) HROWS.out (by omega) (by omega)).mono ?_
            rintro e w6 ⟨A6, m6, c6, ks, rfl, hs6, hk6, he6⟩
            have hE6 := hE5.trans he6
            have qq6 := (he6.cell (p := ⟨gq, 0, none⟩) (cell_lt2 qq5)).trans qq5
            have q6 := (he6.cell (p := ⟨w.heap.size, 0, none⟩) (cell_lt2 q5)).trans q5
            have HS6 := Lib.hid hs6
            have hl6 := hs6.len
            obtain ⟨g1, g2, g3, g4⟩ := HKC.out cc ks (by rw [HMo.out]; omega) hk6
            have hkk : kk + m6 ≤ 60 := by
              have := HKN.out (cc + 1)
              rw [g2, hst.out.2, hl6] at this
              omega
            have G1 := Lib.hid g1
            have G2 := Lib.hid g2
            have G3 := Lib.hid g3
            have G4 : Hid (1 < l → (ks.map fun x => (lvl p (l - 1)).count x).sum = m5) := Lib.hid fun h => by rw [g4 h, HL5.out]
            have HL6 := Lib.hid hl6
            clear g1 g2 g3 g4 hs6 hk6 he6 q5 qq5 hE5 hl6
            go_wp2_with fail
            all_goals first | (exfalso; omega) | skip
            go_loopw [12, 13] (fun sv iv wr => ∃ (i t : Nat), i ≤ m6 ∧ t ≤ 60 ∧ sv = .int .i64 t ∧ iv = .int .i64 i ∧ Hid (((ks.take i).map fun x => (lvl p (l - 1)).count x).sum = t) ∧ Ext w6 wr) (fun _ iv _ => m6 - (intOf iv).toNat)
            case atStart => exact ⟨0, 0, Nat.zero_le _, Nat.zero_le _, rfl, rfl, Lib.hid (by simp), Ext.refl _⟩
            case round =>
              obtain ⟨i, t, hi, ht60, rfl, rfl, hsum, hei⟩ := hrel
              obtain ⟨wz, rfl⟩ : ∃ wz : World, wz = wr := ⟨_, rfl⟩
              by_cases him : i < m6
              · have hl1' : 1 < l := by
                  have := G3.out
                  have := HL6.out
                  omega
                obtain ⟨bk, ok, x, hAk, hbk, hx, ek, -, -⟩ := (HS6.out.ext hei).int him
                subst hAk
                have h6m := HS6.out.max
                have h6l := HS6.out.le
                unfold maxLen at h6m
                obtain ⟨hx1, hx2⟩ := G1.out i x hx
                rw [hst.out.2] at hx1
                subst hx1
                have HUP := Lib.hid hx2
                have hnext := take_sum_succ (fun x => (lvl p (l - 1)).count x) hx
                have hle := take_sum (fun x => (lvl p (l - 1)).count x) ks (i + 1)
                rw [G4.out hl1'] at hle
                rw [hsum.out] at hnext
                obtain ⟨cx, hcx⟩ : ∃ cx, (lvl p (l - 1)).count ((kk : Int) + i) = cx := ⟨_, rfl⟩
                rw [hcx] at hnext
                have htc : t + cx ≤ 60 := by omega
                have hwt : IntKind.i64.wrap ((t : Int) + cx) = t + cx := IntWalk.i64_in _ (by omega)
                have HNX := Lib.hid hnext
                have HCX := Lib.hid hcx
                have qz := (hei.cell (p := ⟨w.heap.size, 0, none⟩) (cell_lt2 q6)).trans q6
                have qqz := (hei.cell (p := ⟨gq, 0, none⟩) (cell_lt2 qq6)).trans qq6
                have i0 : (0 : Int) ≤ (i : Int) := by omega
                have i1 : (i : Int) < (m6 : Int) := by omega
                have hE := hE6.trans hei
                have hwx : IntKind.i64.wrap ((kk : Int) + i) = (kk : Int) + i := IntWalk.i64_in _ (by omega)
                have hdx : (((kk : Int) + i) != ((kk : Int) + i)) = false := by simp
                have hdc : ((cc : Int) != (cc : Int)) = false := by simp
                clear hx hx2 hnext hle hcx
                go_upto_region 23 with fail
                refine wp_region_held_drew (S := (fun w' => Ext wz w' ∧ w'.cell? ⟨bk, ok + i, none⟩ = some (.int .i64 ((kk : Int) + i)) ∧ w'.cell? ⟨gq, 0, none⟩ = some (.slice A3 n3 c3))) (by kernel_rfl) ⟨Ext.dr (Ext.refl _), ek, qqz⟩ (fun hHeld => ?_)
                refine wpAnyH_take (i := 0) (v := ?_) rfl (by kernel_rfl) (by kernel_rfl) (by kernel_rfl) (fun _ _ _ h => h) (Or.inl ⟨by rfl, ?_⟩) (by assumption) ?_; rotate_left; (intro W hSw; (try dsimp only at hSw); go_simp; with_reducible rfl); (try simp only [Act.put, List.setIfInBounds_toArray, List.set_cons_zero, List.set_cons_succ, List.getElem_toArray, List.getElem_cons_succ, List.getElem_cons_zero])
                refine wpAnyH_take (i := 1) (v := ?_) rfl (by kernel_rfl) (by kernel_rfl) (by kernel_rfl) (fun _ _ _ h => h) (Or.inl ⟨by rfl, ?_⟩) (by assumption) ?_; rotate_left; (intro W hSw; (try dsimp only at hSw); go_simp; with_reducible rfl); (try simp only [Act.put, List.setIfInBounds_toArray, List.set_cons_zero, List.set_cons_succ, List.getElem_toArray, List.getElem_cons_succ, List.getElem_cons_zero])
                refine wpAnyH_take (i := 2) (v := ?_) rfl (by kernel_rfl) (by kernel_rfl) (by kernel_rfl) (fun _ _ _ h => h) (Or.inl ⟨by rfl, ?_⟩) (by assumption) ?_; rotate_left; (intro W hSw; (try dsimp only at hSw); go_simp; with_reducible rfl); (try simp only [Act.put, List.setIfInBounds_toArray, List.set_cons_zero, List.set_cons_succ, List.getElem_toArray, List.getElem_cons_succ, List.getElem_cons_zero])
                refine wpAnyH_take (i := 3) (v := ?_) rfl (by kernel_rfl) (by kernel_rfl) (by kernel_rfl) (fun _ _ _ h => h) (Or.inl ⟨by rfl, ?_⟩) (by assumption) ?_; rotate_left; (intro W hSw; (try dsimp only at hSw); go_simp; with_reducible rfl); (try simp only [Act.put, List.setIfInBounds_toArray, List.set_cons_zero, List.set_cons_succ, List.getElem_toArray, List.getElem_cons_succ, List.getElem_cons_zero])
                refine wpAnyH_take (i := 4) (v := ?_) rfl (by kernel_rfl) (by kernel_rfl) (by kernel_rfl) (fun _ _ _ h => h) (Or.inl ⟨by rfl, ?_⟩) (by assumption) ?_; rotate_left; (intro W hSw; (try dsimp only at hSw); go_simp; with_reducible rfl); (try simp only [Act.put, List.setIfInBounds_toArray, List.set_cons_zero, List.set_cons_succ, List.getElem_toArray, List.getElem_cons_succ, List.getElem_cons_zero])
                refine wpAnyH_take (i := 5) (v := ?_) rfl (by kernel_rfl) (by kernel_rfl) (by kernel_rfl) (fun _ _ _ h => h) (Or.inl ⟨by rfl, ?_⟩) (by assumption) ?_; rotate_left; (intro W hSw; (try dsimp only at hSw); go_simp; with_reducible rfl); (try simp only [Act.put, List.setIfInBounds_toArray, List.set_cons_zero, List.set_cons_succ, List.getElem_toArray, List.getElem_cons_succ, List.getElem_cons_zero])
                refine wpAnyH_take (i := 6) (v := ?_) rfl (by kernel_rfl) (by kernel_rfl) (by kernel_rfl) (fun _ _ _ h => h) (Or.inl ⟨by rfl, ?_⟩) (by assumption) ?_; rotate_left; (intro W hSw; (try dsimp only at hSw); go_simp; with_reducible rfl); (try simp only [Act.put, List.setIfInBounds_toArray, List.set_cons_zero, List.set_cons_succ, List.getElem_toArray, List.getElem_cons_succ, List.getElem_cons_zero])
                refine wpAnyH_take (i := 7) (v := ?_) rfl (by kernel_rfl) (by kernel_rfl) (by kernel_rfl) (fun _ _ _ h => h) (Or.inl ⟨by rfl, ?_⟩) (by assumption) ?_; rotate_left; (intro W hSw; (try dsimp only at hSw); go_simp; with_reducible rfl); (try simp only [Act.put, List.setIfInBounds_toArray, List.set_cons_zero, List.set_cons_succ, List.getElem_toArray, List.getElem_cons_succ, List.getElem_cons_zero])
                refine wpAnyH_take (i := 8) (v := ?_) rfl (by kernel_rfl) (by kernel_rfl) (by kernel_rfl) (fun _ _ _ h => h) (Or.inl ⟨by rfl, ?_⟩) (by assumption) ?_; rotate_left; (intro W hSw; (try dsimp only at hSw); go_simp; with_reducible rfl); (try simp only [Act.put, List.setIfInBounds_toArray, List.set_cons_zero, List.set_cons_succ, List.getElem_toArray, List.getElem_cons_succ, List.getElem_cons_zero])
                refine wpAnyH_take (i := 9) (v := ?_) rfl (by kernel_rfl) (by kernel_rfl) (by kernel_rfl) (fun _ _ _ h => h) (Or.inl ⟨by rfl, ?_⟩) (by assumption) ?_; rotate_left; (intro W hSw; (try dsimp only at hSw); go_simp; with_reducible rfl); (try simp only [Act.put, List.setIfInBounds_toArray, List.set_cons_zero, List.set_cons_succ, List.getElem_toArray, List.getElem_cons_succ, List.getElem_cons_zero])
                refine wpAnyH_take (i := 10) (v := ?_) rfl (by kernel_rfl) (by kernel_rfl) (by kernel_rfl) (fun _ _ _ h => h) (Or.inl ⟨by rfl, ?_⟩) (by assumption) ?_; rotate_left; (intro W hSw; (try dsimp only at hSw); go_simp; with_reducible rfl); (try simp only [Act.put, List.setIfInBounds_toArray, List.set_cons_zero, List.set_cons_succ, List.getElem_toArray, List.getElem_cons_succ, List.getElem_cons_zero])
                refine wpAnyH_take (i := 11) (v := ?_) rfl (by kernel_rfl) (by kernel_rfl) (by kernel_rfl) (fun _ _ _ h => h) (Or.inl ⟨by rfl, ?_⟩) (by assumption) ?_; rotate_left; (intro W hSw; (try dsimp only at hSw); go_simp; with_reducible rfl); (try simp only [Act.put, List.setIfInBounds_toArray, List.set_cons_zero, List.set_cons_succ, List.getElem_toArray, List.getElem_cons_succ, List.getElem_cons_zero])
                refine wpAnyH_take (i := 12) (v := ?_) rfl (by kernel_rfl) (by kernel_rfl) (by kernel_rfl) (fun _ _ _ h => h) (Or.inl ⟨by rfl, ?_⟩) (by assumption) ?_; rotate_left; (intro W hSw; (try dsimp only at hSw); go_simp; with_reducible rfl); (try simp only [Act.put, List.setIfInBounds_toArray, List.set_cons_zero, List.set_cons_succ, List.getElem_toArray, List.getElem_cons_succ, List.getElem_cons_zero])
                refine wpAnyH_take (i := 13) (v := ?_) rfl (by kernel_rfl) (by kernel_rfl) (by kernel_rfl) (fun _ _ _ h => h) (Or.inl ⟨by rfl, ?_⟩) (by assumption) ?_; rotate_left; (intro W hSw; (try dsimp only at hSw); go_simp; with_reducible rfl); (try simp only [Act.put, List.setIfInBounds_toArray, List.set_cons_zero, List.set_cons_succ, List.getElem_toArray, List.getElem_cons_succ, List.getElem_cons_zero])
                refine wpAnyH_take (i := 14) (v := ?_) rfl (by kernel_rfl) (by kernel_rfl) (by kernel_rfl) (fun _ _ _ h => h) (Or.inl ⟨by rfl, ?_⟩) (by assumption) ?_; rotate_left; (intro W hSw; (try dsimp only at hSw); go_simp; with_reducible rfl); (try simp only [Act.put, List.setIfInBounds_toArray, List.set_cons_zero, List.set_cons_succ, List.getElem_toArray, List.getElem_cons_succ, List.getElem_cons_zero])
                refine wpAnyH_take (i := 15) (v := ?_) rfl (by kernel_rfl) (by kernel_rfl) (by kernel_rfl) (fun _ _ _ h => h) (Or.inl ⟨by rfl, ?_⟩) (by assumption) ?_; rotate_left; (intro W hSw; (try dsimp only at hSw); go_simp; with_reducible rfl); (try simp only [Act.put, List.setIfInBounds_toArray, List.set_cons_zero, List.set_cons_succ, List.getElem_toArray, List.getElem_cons_succ, List.getElem_cons_zero])
                refine wpAnyH_take (i := 17) (v := ?_) rfl (by kernel_rfl) (by kernel_rfl) (by kernel_rfl) (fun _ _ _ h => h) (Or.inl ⟨by rfl, ?_⟩) (by assumption) ?_; rotate_left; (intro W hSw; (try dsimp only at hSw); go_simp; with_reducible rfl); (try simp only [Act.put, List.setIfInBounds_toArray, List.set_cons_zero, List.set_cons_succ, List.getElem_toArray, List.getElem_cons_succ, List.getElem_cons_zero])
                refine wpAnyH_ready (rs := [16]) (by kernel_rfl) (by simp) ?_; refine AllReadyH.cons rfl (fun K hK => ?_) AllReadyH.nil; go_simp
                go_at_call 20
                refine (Up_c (l - 1) ((kk : Int) + i) (HQ.out.ext (hE.trans (And.left (by assumption : Ext wz _ ∧ _)))) HROWS.out (by omega)).mono ?_
                rintro e x16 ⟨u16, rfl, hu16, -, he16⟩
                obtain rfl := HUP.out _ hu16
                refine hK.out _ _ ?_ (fun hHeld => ?_)
                · exact kept2 he16 (by assumption)
                clear hK K hu16
                (try simp only [Act.put, List.setIfInBounds_toArray, List.set_cons_zero, List.set_cons_succ, List.getElem_toArray, List.getElem_cons_succ, List.getElem_cons_zero])
                refine wpAnyH_take (i := 18) (v := ?_) rfl (by kernel_rfl) (by kernel_rfl) (by kernel_rfl) (fun _ _ _ h => h) (Or.inl ⟨by rfl, ?_⟩) (by assumption) ?_; rotate_left; (intro W hSw; (try dsimp only at hSw); go_simp; with_reducible rfl); (try simp only [Act.put, List.setIfInBounds_toArray, List.set_cons_zero, List.set_cons_succ, List.getElem_toArray, List.getElem_cons_succ, List.getElem_cons_zero])
                refine wpAnyH_take (i := 19) (v := ?_) rfl (by kernel_rfl) (by kernel_rfl) (by kernel_rfl) (fun _ _ _ h => h) (Or.inl ⟨by rfl, ?_⟩) (by assumption) ?_; rotate_left; (intro W hSw; (try dsimp only at hSw); go_simp; with_reducible rfl); (try simp only [Act.put, List.setIfInBounds_toArray, List.set_cons_zero, List.set_cons_succ, List.getElem_toArray, List.getElem_cons_succ, List.getElem_cons_zero])
                refine wpAnyH_done (by kernel_rfl) ?_ _
                have hT := (by assumption : Ext wz _ ∧ _)
                clear hdx hdc
                go_wp2_with fail
                go_upto_region 25 with fail
                refine wp_region_held_drew (S := (fun w' => Ext wz w' ∧ w'.cell? ⟨bk, ok + i, none⟩ = some (.int .i64 ((kk : Int) + i)) ∧ w'.cell? ⟨gq, 0, none⟩ = some (.slice A3 n3 c3))) (by kernel_rfl) ⟨Ext.dr hT.1, hT.2.1, hT.2.2⟩ (fun hHeld => ?_)
                clear hT
                refine wpAnyH_take (i := 0) (v := ?_) rfl (by kernel_rfl) (by kernel_rfl) (by kernel_rfl) (fun _ _ _ h => h) (Or.inl ⟨by rfl, ?_⟩) (by assumption) ?_; rotate_left; (intro W hSw; (try dsimp only at hSw); go_simp; with_reducible rfl); (try simp only [Act.put, List.setIfInBounds_toArray, List.set_cons_zero, List.set_cons_succ, List.getElem_toArray, List.getElem_cons_succ, List.getElem_cons_zero])
                refine wpAnyH_take (i := 1) (v := ?_) rfl (by kernel_rfl) (by kernel_rfl) (by kernel_rfl) (fun _ _ _ h => h) (Or.inl ⟨by rfl, ?_⟩) (by assumption) ?_; rotate_left; (intro W hSw; (try dsimp only at hSw); go_simp; with_reducible rfl); (try simp only [Act.put, List.setIfInBounds_toArray, List.set_cons_zero, List.set_cons_succ, List.getElem_toArray, List.getElem_cons_succ, List.getElem_cons_zero])
                refine wpAnyH_take (i := 2) (v := ?_) rfl (by kernel_rfl) (by kernel_rfl) (by kernel_rfl) (fun _ _ _ h => h) (Or.inl ⟨by rfl, ?_⟩) (by assumption) ?_; rotate_left; (intro W hSw; (try dsimp only at hSw); go_simp; with_reducible rfl); (try simp only [Act.put, List.setIfInBounds_toArray, List.set_cons_zero, List.set_cons_succ, List.getElem_toArray, List.getElem_cons_succ, List.getElem_cons_zero])
                refine wpAnyH_take (i := 3) (v := ?_) rfl (by kernel_rfl) (by kernel_rfl) (by kernel_rfl) (fun _ _ _ h => h) (Or.inl ⟨by rfl, ?_⟩) (by assumption) ?_; rotate_left; (intro W hSw; (try dsimp only at hSw); go_simp; with_reducible rfl); (try simp only [Act.put, List.setIfInBounds_toArray, List.set_cons_zero, List.set_cons_succ, List.getElem_toArray, List.getElem_cons_succ, List.getElem_cons_zero])
                refine wpAnyH_take (i := 4) (v := ?_) rfl (by kernel_rfl) (by kernel_rfl) (by kernel_rfl) (fun _ _ _ h => h) (Or.inl ⟨by rfl, ?_⟩) (by assumption) ?_; rotate_left; (intro W hSw; (try dsimp only at hSw); go_simp; with_reducible rfl); (try simp only [Act.put, List.setIfInBounds_toArray, List.set_cons_zero, List.set_cons_succ, List.getElem_toArray, List.getElem_cons_succ, List.getElem_cons_zero])
                refine wpAnyH_take (i := 5) (v := ?_) rfl (by kernel_rfl) (by kernel_rfl) (by kernel_rfl) (fun _ _ _ h => h) (Or.inl ⟨by rfl, ?_⟩) (by assumption) ?_; rotate_left; (intro W hSw; (try dsimp only at hSw); go_simp; with_reducible rfl); (try simp only [Act.put, List.setIfInBounds_toArray, List.set_cons_zero, List.set_cons_succ, List.getElem_toArray, List.getElem_cons_succ, List.getElem_cons_zero])
                refine wpAnyH_take (i := 6) (v := ?_) rfl (by kernel_rfl) (by kernel_rfl) (by kernel_rfl) (fun _ _ _ h => h) (Or.inl ⟨by rfl, ?_⟩) (by assumption) ?_; rotate_left; (intro W hSw; (try dsimp only at hSw); go_simp; with_reducible rfl); (try simp only [Act.put, List.setIfInBounds_toArray, List.set_cons_zero, List.set_cons_succ, List.getElem_toArray, List.getElem_cons_succ, List.getElem_cons_zero])
                refine wpAnyH_take (i := 7) (v := ?_) rfl (by kernel_rfl) (by kernel_rfl) (by kernel_rfl) (fun _ _ _ h => h) (Or.inl ⟨by rfl, ?_⟩) (by assumption) ?_; rotate_left; (intro W hSw; (try dsimp only at hSw); go_simp; with_reducible rfl); (try simp only [Act.put, List.setIfInBounds_toArray, List.set_cons_zero, List.set_cons_succ, List.getElem_toArray, List.getElem_cons_succ, List.getElem_cons_zero])
                refine wpAnyH_ready (rs := [8]) (by kernel_rfl) (by simp) ?_; refine AllReadyH.cons rfl (fun K hK => ?_) AllReadyH.nil; go_simp
                go_at_call 18
                refine (Of_c (l - 1) ((kk : Int) + i) (HQ.out.ext (hE.trans (And.left (by assumption : Ext wz _ ∧ _)))) (by have := (HLV.out (l - 1)).1; omega)).mono ?_
                rintro e x8 ⟨A8, m8, c8, rfl, hs8, he8⟩
                have hl8 := hs8.len
                rw [ofI_len, HCX.out] at hl8
                subst hl8
                refine hK.out _ _ ?_ (fun hHeld => ?_)
                · exact kept2 he8 (by assumption)
                clear hK K hs8
                (try simp only [Act.put, List.setIfInBounds_toArray, List.set_cons_zero, List.set_cons_succ, List.getElem_toArray, List.getElem_cons_succ, List.getElem_cons_zero])
                refine wpAnyH_take (i := 9) (v := ?_) rfl (by kernel_rfl) (by kernel_rfl) (by kernel_rfl) (fun _ _ _ h => h) (Or.inl ⟨by rfl, ?_⟩) (by assumption) ?_; rotate_left; (intro W hSw; (try dsimp only at hSw); go_simp; with_reducible rfl); (try simp only [Act.put, List.setIfInBounds_toArray, List.set_cons_zero, List.set_cons_succ, List.getElem_toArray, List.getElem_cons_succ, List.getElem_cons_zero])
                refine wpAnyH_take (i := 10) (v := ?_) rfl (by kernel_rfl) (by kernel_rfl) (by kernel_rfl) (fun _ _ _ h => h) (Or.inl ⟨by rfl, ?_⟩) (by assumption) ?_; rotate_left; (intro W hSw; (try dsimp only at hSw); go_simp; with_reducible rfl); (try simp only [Act.put, List.setIfInBounds_toArray, List.set_cons_zero, List.set_cons_succ, List.getElem_toArray, List.getElem_cons_succ, List.getElem_cons_zero])
                refine wpAnyH_take (i := 11) (v := ?_) rfl (by kernel_rfl) (by kernel_rfl) (by kernel_rfl) (fun _ _ _ h => h) (Or.inl ⟨by rfl, ?_⟩) (by assumption) ?_; rotate_left; (intro W hSw; (try dsimp only at hSw); go_simp; with_reducible rfl); (try simp only [Act.put, List.setIfInBounds_toArray, List.set_cons_zero, List.set_cons_succ, List.getElem_toArray, List.getElem_cons_succ, List.getElem_cons_zero])
                refine wpAnyH_done (by kernel_rfl) ?_ _
                have hEE := hei.trans (And.left (by assumption : Ext wz _ ∧ _))
                go_wp2_with fail
                all_goals first | (exfalso; omega) | skip
                go_roundw
                case rel => exact ⟨i + 1, t + cx, by omega, htc, by go_num, by go_num, HNX, hEE⟩
                case measure => simp [intOf]; omega
              · obtain rfl : i = m6 := by omega
                have hEE := hE6.trans hei
                have hsum' := hsum.out
                rw [← HL6.out, List.take_length] at hsum'
                have HRW : Hid (cntLt (lvl p l) ((cc + 1 : Nat) : Int) = s + m5 ∧ kd (cc + 1) = kk + i) := Lib.hid ⟨by rw [show (((cc + 1 : Nat)) : Int) = (cc : Int) + 1 by push_cast; rfl, cntLt_succ, hst.out.1, HL5.out], by rw [G2.out, hst.out.2, HL6.out]⟩
                by_cases hl1' : 1 < l
                · have d1 : decide (l > 1) = true := decide_eq_true (by omega)
                  have d2 : (l == 1) = false := by simp; omega
                  obtain rfl : t = m5 := by rw [← hsum']; exact G4.out hl1'
                  have d3 : ((t : Int) != (t : Int)) = false := by simp
                  clear hsum'
                  go_wp2_with fail
                  all_goals first | (exfalso; omega) | skip
                  go_roundw
                  case rel => exact ⟨cc + 1, s + t, kk + i, by omega, hsplit, hkk, by go_num, by go_num, by go_num, HRW, hEE⟩
                  case measure => simp [intOf]; omega
                · have d1 : decide (l > 1) = false := decide_eq_false (by omega)
                  have d2 : (l == 1) = true := by simp; omega
                  have d3 : ((i : Int) != 0) = false := by
                    have h1 := G3.out (by omega)
                    have h2 := HL6.out
                    have : i = 0 := by omega
                    simp [this]
                  clear hsum'
                  go_wp2_with fail
                  all_goals first | (exfalso; omega) | skip
                  go_roundw
                  case rel => exact ⟨cc + 1, s + m5, kk + i, by omega, hsplit, hkk, by go_num, by go_num, by go_num, HRW, hEE⟩
                  case measure => simp [intOf]; omega
          · obtain rfl : cc = M := by omega
            obtain ⟨hs1, hk1⟩ := hst.out
            obtain rfl : s = v := by
              rw [← hs1, ← HLEN.out]
              exact cntLt_all fun x hx => by have h1 := mostOf_ge hx; have h2 := HMo.out; omega
            have d0 : ((s : Int) != (s : Int)) = false := by simp
            have HKK : Hid (1 < l → mostOf (lvl p (l - 1)) = (kk : Int)) := Lib.hid fun h => by
              have h1 := HKM.out h
              rw [HMo.out, Int.toNat_natCast, hk1] at h1
              exact h1.symm
            clear hs1 hk1
            by_cases hl1' : 1 < l
            · have d1 : decide (l > 1) = true := decide_eq_true (by omega)
              go_wp2_with fail
              all_goals first | (exfalso; omega) | skip
              refine (Count_c (l - 1) (HQ.out.ext hE4) (HLV.out (l - 1)).2).mono ?_
              rintro e w7 ⟨rfl, he7⟩
              rw [HKK.out hl1']
              have d3 : ((kk : Int) != (kk : Int)) = false := by simp
              have hEE := hE4.trans he7
              clear he7
              go_wp2_with fail
              all_goals first | (exfalso; omega) | skip
              go_roundw
              case rel => exact ⟨l + 1, by omega, by omega, by go_num, hEE⟩
              case measure => simp [intOf]; omega
            · have d1 : decide (l > 1) = false := decide_eq_false (by omega)
              go_wp2_with fail
              all_goals first | (exfalso; omega) | skip
              go_roundw
              case rel => exact ⟨l + 1, by omega, by omega, by go_num, hE4⟩
              case measure => simp [intOf]; omega
      · have hz0 : mostOf (lvl p 0) = 0 := by rw [lvl_out (by omega)]; rfl
        have hz1 : mostOf (lvl p ((n : Int) + 1)) = 0 := by rw [lvl_out (by rw [HN.out]; omega)]; rfl
        have HZ0 := Lib.hid hz0
        have HZ1 := Lib.hid hz1
        clear hz0 hz1
        go_wp2_with fail
        all_goals first | (exfalso; omega) | skip
        refine (Count_c 0 (HQ.out.ext he) (HLV.out 0).2).mono ?_
        rintro e w4 ⟨rfl, he4⟩
        rw [HZ0.out]
        have hE4 := he.trans he4
        have qq4 := (he4.cell (p := ⟨gq, 0, none⟩) (cell_lt2 qqy)).trans qqy
        have q4 := (he4.cell (p := ⟨w.heap.size, 0, none⟩) (cell_lt2 qy)).trans qy
        clear he4 qy qqy he
        go_wp2_with fail
        all_goals first | (exfalso; omega) | skip
        refine (Count_c ((n : Int) + 1) (HQ.out.ext hE4) (HLV.out ((n : Int) + 1)).2).mono ?_
        rintro e w5 ⟨rfl, he5⟩
        rw [HZ1.out]
        have hEE := hE3.trans (hE4.trans he5)
        go_wp2_with fail
        all_goals first | (exfalso; omega) | skip
        go_ret
        exact ⟨rfl, hEE⟩
end
end Go.Proofs.YtlaobpnbnfoadaaGreatDoor
