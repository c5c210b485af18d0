/-
  Contract of better.moves: each move of a stop of some rounds is shown to the function literal, in order. Conditions: the readings; few stops; few and short rows, none empty.
-/
import Derived.Test.YtmgokaancnifeaaB23
import Derived.Test.YtmgokaancnifeaaB19
import Derived.Deep.RegionWith
import Derived.Deep.RegionHeld3
namespace Go.Proofs.Ytmgokaancnifeaa
set_option linter.unusedVariables false
set_option linter.unusedSimpArgs false
set_option linter.unusedSectionVars false
set_option linter.unnecessarySimpa false
open Go Go.RowKit Go.Shelf

/-- Rows laid side by side. -/
theorem sl_rows {F : Nat → Prop} {w : World} {g k : Nat} {e : TypeId} {vs : List Value} {xs : List (List Int)} (h : Blk w g e vs.toArray) (hF : F g) (hk : xs.length = k) (hl : vs.length = k) (hm : k ≤ 1000)
    (hx : ∀ (j : Nat) (v : Value) (x : List Int), vs[j]? = some v → xs[j]? = some x → ∃ A n c, v = .slice A n c ∧ Sl rI F w A n c x) : Sl rRows F w (some ⟨g, 0, none⟩) k k xs := by
  refine ⟨hk, Nat.le_refl _, by unfold maxLen; omega, fun _ => ⟨g, 0, rfl, hF, h.lt, fun j x hj => ?_⟩⟩
  have hjl := (List.getElem?_eq_some_iff.1 hj).1
  have hv : vs[j]? = some (vs[j]'(by omega)) := List.getElem?_eq_getElem _
  obtain ⟨A, n, c, h1, h2⟩ := hx j _ x hv hj
  refine ⟨[vs[j]'(by omega)], fun i u hi => ?_, A, n, c, by rw [h1], h2⟩
  cases i with
  | succ i => simp at hi
  | zero =>
    simp only [List.getElem?_cons_zero, Option.some.injEq] at hi
    show w.cell? ⟨g, 0 + (j * 1 + 0), none⟩ = some u
    rw [Nat.zero_add, Nat.mul_one, Nat.add_zero, h.cell, ← hi]
    simp
theorem moved_small {rs : List (List Int)} {f a t b : Nat} {r : List Int} {s : Int} (hr : ∀ r ∈ rs, r.length ≤ 9) (h : r.length ≤ 9) : ∀ x ∈ movedI rs f r a s t b, x.length ≤ 1000 := by
  have h2 : ∀ x ∈ (rs.set f (leftI r a)).set t (putI (oldI rs f r a t) s b), x.length ≤ 1000 := by
    intro x hx
    rcases mem_set hx with hx | hx
    · rcases mem_set hx with hx | hx
      · have := hr x hx
        omega
      · rw [hx, leftI]
        simp only [List.length_append, List.length_take, List.length_drop]
        omega
    · have h9 := oldI_len (f := f) (a := a) (t := t) hr h
      rw [hx, putI]
      generalize oldI rs f r a t = r0 at *
      simp only [List.length_append, List.length_take, List.length_drop, List.length_cons, List.length_nil]
      omega
  intro x hx
  simp only [movedI] at hx
  split at hx
  · exact h2 x (List.mem_of_mem_eraseIdx hx)
  · exact h2 x hx
theorem left_flat (r : List Int) (j : Nat) : [r.take j, r.drop (j + 1)].flatten = leftI r j := by simp [leftI]
theorem put_flat (o : List Int) (s : Int) (b : Nat) : [o.take b, [s], o.drop b].flatten = putI o s b := by simp [putI]
section
variable {F G H : Nat → Prop} {A B R : Option Addr} {n m p c c2 c3 : Nat} {d : List (List Int)} {rs qs : List (List Int)} {stops : List (Int × Int)} {wo w w' : World} {dep cap lim x : Int} {b : Bool} {D L Jb Bs k c4 : Nat} {st : Fnd} {a : Addr}
/-- What is left of a slice behind the first so many: where it begins. -/
theorem Sl.behind {F : Nat → Prop} {w : World} {A : Option Addr} {n c k : Nat} {xs : List Int} (h : Sl rI F w A n c xs) (hk : k ≤ n) : Sl rI F w (if c = k then A else A.map (fun a => Addr.add a k)) (n - k) (c - k) (xs.drop k) := by
  have hm := h.max
  have hle := h.le
  by_cases h0 : k = n
  · exact Sl.drop_to _ _ _ _ _ (by omega) (by rw [List.length_drop, h.len]) (by omega) (by omega)
  · obtain ⟨b, o, hA, -⟩ := h.at_ (by omega)
    subst hA
    rw [if_neg (by omega)]
    have h9 : Sl rI F w (some ⟨b, o + k * 1, none⟩) (n - k) (c - k) (xs.drop k) := h.drop hk
    rw [Nat.mul_one] at h9
    simpa [Addr.add_lit] using h9
set_option maxRecDepth 100000 in
set_option maxHeartbeats 16000000 in
theorem moves_c (hf : Fw dep cap lim A n c B m c2 D L Jb Bs rs wo w st) (hs : Sl rP F wo A n c stops) (hd : Sl rT G wo B m c2 d) (hl : ∀ x ∈ stops, 0 ≤ x.2 ∧ x.2 ≤ 2147483648) (hn : n ≤ 9)
    (hr : Sl rRows H wo R p c3 rs) (hp : p ≤ 9) (hr9 : ∀ r ∈ rs, r.length ≤ 9) (hne : ∀ r ∈ rs, r ≠ []) :
    Calls Try.prog 31 #[.slice R p c3, .func (.func 29) #[] #[.pointer (some ⟨D, 0, none⟩), .pointer (some ⟨L, 0, none⟩), .pointer (some ⟨Jb, 0, none⟩), .pointer (some ⟨Bs, 0, none⟩)]] w fun e w' =>
      e = .returned (.tuple #[]) ∧ Fw dep cap lim A n c B m c2 D L Jb Bs rs wo w' ((movesF rs p).foldl (updI ⟨d, stops, cap, lim⟩) st) := by
  have TRY : ∀ (W : World) (st' : Fnd) (a : Addr) (k c4 : Nat) (qs : List (List Int)), Fw dep cap lim A n c B m c2 D L Jb Bs rs wo W st' → Sl rRows (fun b => b ≠ L ∧ b ≠ Bs) W (some a) k c4 qs → k ≤ 1000 → (∀ r ∈ qs, r.length ≤ 1000) →
      Calls Try.prog 29 #[.slice (some a) k c4, .pointer (some ⟨D, 0, none⟩), .pointer (some ⟨L, 0, none⟩), .pointer (some ⟨Jb, 0, none⟩), .pointer (some ⟨Bs, 0, none⟩)] W fun e w' =>
        e = .returned (.tuple #[]) ∧ Fw dep cap lim A n c B m c2 D L Jb Bs rs wo w' (updI ⟨d, stops, cap, lim⟩ st' qs) ∧ But L Bs W w' :=
    fun W st' a k c4 qs h hq hk h10 => try_c h hs hd hl hn hq hk h10
  obtain ⟨J, hJ⟩ : ∃ J : JD, J = ⟨d, stops, cap, lim⟩ := ⟨_, rfl⟩
  rw [← hJ] at TRY ⊢
  have HR := Lib.hid hr.lt
  have HL := Lib.hid hr.len
  have H9 := Lib.hid hr9
  have HNE := Lib.hid hne
  have HF := Lib.hid hf
  have hcm := hr.max
  have hcn := hr.le
  unfold maxLen at hcm
  have hlo := hf.lo
  clear hJ hs hd hl hr hr9 hf hne
  go_enter Try.func31, Try.ntmps31
  go_wp2_with fail
  go_loopw [15] (fun i wr => ∃ k : Nat, k ≤ p ∧ i = .int .i64 k ∧ Fw dep cap lim A n c B m c2 D L Jb Bs rs wo wr ((movesF rs k).foldl (updI J) st)) (fun i _ => p - (intOf i).toNat)
  case atStart => exact ⟨0, Nat.zero_le _, rfl, by simpa [movesF] using HF.out⟩
  case round =>
    clear HF
    obtain ⟨k, hk, rfl, hf⟩ := hrel
    obtain ⟨wz, rfl⟩ : ∃ wz : World, wz = wr := ⟨_, rfl⟩
    by_cases hkp : k < p
    · obtain ⟨b0, o0, A2, n2, c5, r, rfl, hbl, hx, e1, hr⟩ := HR.out.row hkp
      have e1' : wo.cell? ⟨b0, o0 + k, none⟩ = some (.slice A2 n2 c5) := e1
      have e2 : wz.cell? ⟨b0, o0 + k, none⟩ = some (.slice A2 n2 c5) := (hf.ext.cell (p := ⟨b0, o0 + k, none⟩) (cell_lt2 e1')).trans e1'
      have HX := Lib.hid hx.out
      have HRL := Lib.hid hr.len
      have hn2 : n2 ≤ 9 := by rw [← hr.len]; exact H9.out r (List.mem_of_getElem? hx.out)
      have HRR := Lib.hid hr
      have hmx := hr.max
      have hle := hr.le
      unfold maxLen at hmx
      clear hx e1 hr
      go_wp2_with fail
      go_loopw [22] (fun i wr => ∃ j : Nat, j ≤ n2 ∧ i = .int .i64 j ∧ Fw dep cap lim A n c B m c2 D L Jb Bs rs wo wr ((movesF rs k ++ movesA rs k r j).foldl (updI J) st)) (fun i _ => n2 - (intOf i).toNat)
      case atStart => exact ⟨0, Nat.zero_le _, rfl, by simpa [movesA] using hf⟩
      case round =>
        clear hf e2
        rename_i wr
        obtain ⟨j, hj, rfl, hf⟩ := hrel
        obtain ⟨wy, rfl⟩ : ∃ wy : World, wy = wr := ⟨_, rfl⟩
        by_cases hjn : j < n2
        · obtain ⟨P, hP⟩ : ∃ P, P = movesF rs k ++ movesA rs k r j := ⟨_, rfl⟩
          have HP := Lib.hid hP
          rw [← hP] at hf
          obtain ⟨b2, o2, s, hA2, hb2, hsj, e3, s0, s1⟩ := HRR.out.int hjn
          subst hA2
          have HSJ := Lib.hid hsj.out
          have e3' : wy.cell? ⟨b2, o2 + j, none⟩ = some (.int .i64 s) := (hf.ext.cell (p := ⟨b2, o2 + j, none⟩) (cell_lt2 e3)).trans e3
          have SL1 := Lib.hid ((HRR.out.ext hf.ext).take (k := j) (by omega))
          have SL2 := Lib.hid ((HRR.out.ext hf.ext).behind (k := j + 1) (by omega))
          obtain ⟨Ad, hAd⟩ : ∃ Ad, (if c5 = j + 1 then some ⟨b2, o2, none⟩ else some ⟨b2, o2 + (j + 1), none⟩ : Option Addr) = Ad := ⟨_, rfl⟩
          have SL3 : Hid (Sl rI (fun b => b < wo.heap.size) wy Ad (n2 - (j + 1)) (c5 - (j + 1)) (r.drop (j + 1))) := Lib.hid (by
            rw [← hAd]
            have := SL2.out
            simpa [Addr.add_lit] using this)
          have a1 : IntKind.i64.wrap ((j : Int) + 1) = (j : Int) + 1 := IntWalk.i64_in _ (by omega)
          have a2 : ((j : Int) + 1).toNat = j + 1 := by omega
          have a3 : (0 : Int) ≤ (j : Int) + 1 := by omega
          have a4 : (j : Int) + 1 ≤ (n2 : Int) := by omega
          have a5 : j ≤ c5 := by omega
          have a6 : (j : Int) ≤ (c5 : Int) := by omega
          have a7 : (j : Int) + 1 ≤ (c5 : Int) := by omega
          have a8 : j + 1 ≤ n2 := by omega
          have a9 : j + 1 ≤ c5 := by omega
          clear hP hsj e3 SL2
          have HC : Hid (Calls Try.prog 45 #[.slice (some ⟨wy.heap.size, 0, none⟩) 2 2] (wy.alloc (.cells #[.slice (some ⟨b2, o2, none⟩) j c5, .slice Ad (n2 - (j + 1)) (c5 - (j + 1))] 44)).drew fun e w' =>
              ∃ v, e = .returned v ∧ Own rI w' wy.heap.size 3 v (leftI r j).length (leftI r j) ∧ Ext wy w') := Lib.hid (by
            have hE : Ext wy (wy.alloc (.cells #[.slice (some ⟨b2, o2, none⟩) j c5, .slice Ad (n2 - (j + 1)) (c5 - (j + 1))] 44)).drew := Ext.dr (Ext.al (Ext.refl _))
            refine (concat_c (sl_rows (xs := [r.take j, r.drop (j + 1)]) (F := fun _ => True) (vs := [.slice (some ⟨b2, o2, none⟩) j c5, .slice Ad (n2 - (j + 1)) (c5 - (j + 1))]) (Blk.drew (Blk.new_at (t := 44) rfl)) trivial rfl rfl (by simp) (fun i v x hv hx => ?_)) (by simp) (fun x hx => ?_)).mono ?_
            · cases i with
              | zero =>
                simp only [List.getElem?_cons_zero, Option.some.injEq] at hv hx
                subst hv hx
                exact ⟨_, _, _, rfl, (SL1.out.ext hE).mono fun _ _ _ => trivial⟩
              | succ i =>
                cases i with
                | zero =>
                  simp only [List.getElem?_cons_succ, List.getElem?_cons_zero, Option.some.injEq] at hv hx
                  subst hv hx
                  exact ⟨_, _, _, rfl, (SL3.out.ext hE).mono fun _ _ _ => trivial⟩
                | succ i => simp at hv
            · have h9 : r.length ≤ 9 := by rw [HRL.out]; exact hn2
              simp only [List.mem_cons, List.not_mem_nil, or_false] at hx
              rcases hx with rfl | rfl
              · rw [List.length_take]; omega
              · rw [List.length_drop]; omega
            · rintro e w' ⟨v, rfl, hown, he⟩
              rw [left_flat] at hown
              exact ⟨v, rfl, hown.low (by simp), hE.trans he⟩)
          have HF := Lib.hid hf
          clear hf
          go_wp2_with fail
          go_upto_region 6 with fail
          go_region_with (
            go_at_call 45
            refine HC.out.mono ?_
            rintro e w1 ⟨v1, rfl, hown1, he1⟩)
          obtain ⟨Al, cl, hv, -⟩ := hown1.shape
          subst hv
          have HF1 := Lib.hid (HF.out.next he1)
          have hlt := HF.out.lts
          have HLF : Hid (Sl rI (fun b => b ≠ L ∧ b ≠ Bs) w1 Al (leftI r j).length cl (leftI r j)) := Lib.hid (hown1.sl.mono fun b hb _ => ⟨by omega, by omega⟩)
          obtain ⟨nl, hnl⟩ : ∃ nl, nl = (leftI r j).length := ⟨_, rfl⟩
          rw [← hnl] at HLF ⊢
          have HNL := Lib.hid hnl
          have HNL8 : Hid (nl = n2 - 1) := Lib.hid (by rw [hnl, leftI_len (by rw [HRL.out]; exact hjn), HRL.out])
          clear hown1 HF HC hnl e3' SL1 SL3 hAd a1 a2 a3 a4 a5 a6 a7 a8 a9
          go_wp2_with fail
          go_loopw [38] (fun i wr => ∃ t : Nat, t ≤ p ∧ i = .int .i64 t ∧ But L Bs w1 wr ∧ Fw dep cap lim A n c B m c2 D L Jb Bs rs wo wr ((P ++ movesT rs k r j s t).foldl (updI J) st)) (fun i _ => p - (intOf i).toNat)
          case atStart => exact ⟨0, Nat.zero_le _, rfl, But.refl _ _ _, by simpa [movesT] using HF1.out⟩
          case round =>
            clear HF1
            rename_i wr
            obtain ⟨t, ht, rfl, hbt, hf⟩ := hrel
            obtain ⟨wx, rfl⟩ : ∃ wx : World, wx = wr := ⟨_, rfl⟩
            by_cases htp : t < p
            · obtain ⟨b1, o1, A3, n3, c6, q, hA, hbl1, hx1, e4, hr1⟩ := HR.out.row htp
              injection hA with hA
              injection hA with u1 u2
              subst u1 u2
              have e4' : wo.cell? ⟨b0, o0 + t, none⟩ = some (.slice A3 n3 c6) := e4
              have e5 : wx.cell? ⟨b0, o0 + t, none⟩ = some (.slice A3 n3 c6) := (hf.ext.cell (p := ⟨b0, o0 + t, none⟩) (cell_lt2 e4')).trans e4'
              have HQ1 : Hid (Sl rI (fun b => b ≠ L ∧ b ≠ Bs) wx A3 n3 c6 q) := Lib.hid ((hr1.ext hf.ext).mono fun b hb _ => ⟨by omega, by omega⟩)
              have HX1 := Lib.hid hx1.out
              have HBT := Lib.hid hbt
              obtain ⟨S, hS⟩ : ∃ S, S = (P ++ movesT rs k r j s t).foldl (updI J) st := ⟨_, rfl⟩
              rw [← hS] at hf
              have HSS := Lib.hid hS
              have HF := Lib.hid hf
              clear hx1 e4 hr1 hbt hS hf
              go_upto_if 47 with fail
              go_cut [10] (fun v wc => ∃ (Ao : Option Addr) (no co : Nat), v = .slice Ao no co ∧ Sl rI (fun b => b ≠ L ∧ b ≠ Bs) wx Ao no co (oldI rs k r j t) ∧ wc = wx)
              case first =>
                by_cases htk : t = k
                · subst htk
                  have q0 : ((t : Int) == (t : Int)) = true := by simp
                  go_wp2_with fail
                  all_goals first | (exfalso; omega) | skip
                  go_meet
                  exact ⟨Al, nl, cl, rfl, by rw [oldI, if_pos rfl]; exact HBT.out.sl HLF.out, rfl⟩
                · have q0 : ((t : Int) == (k : Int)) = false := by simp; omega
                  go_wp2_with fail
                  all_goals first | (exfalso; omega) | skip
                  go_meet
                  exact ⟨A3, n3, c6, rfl, by rw [oldI, if_neg htk, List.getD_eq_getElem?_getD, HX1.out]; exact HQ1.out, rfl⟩
              case rest =>
                obtain ⟨Ao, no, co, rfl, hold, hwc⟩ := hcut
                have hwc2 := hwc.symm
                subst hwc2
                clear hwc
                obtain ⟨old, hold_⟩ : ∃ old, old = oldI rs k r j t := ⟨_, rfl⟩
                rw [← hold_] at hold
                have HOLD := Lib.hid hold_
                have hno := hold.len
                have hno9 : no ≤ 9 := by rw [← hno, hold_]; exact oldI_len H9.out (by rw [HRL.out]; exact hn2)
                have hcno := hold.le
                have hcom := hold.max
                unfold maxLen at hcom
                have HO := Lib.hid hold
                clear hold hold_ hno e5
                go_wp2_with fail
                go_loopw [11] (fun i wr => ∃ z : Nat, z ≤ no + 1 ∧ i = .int .i64 z ∧ But L Bs wx wr ∧ Fw dep cap lim A n c B m c2 D L Jb Bs rs wo wr ((P ++ movesT rs k r j s t ++ movesB rs k r j s t z).foldl (updI J) st)) (fun i _ => no + 1 - (intOf i).toNat)
                case atStart => exact ⟨0, Nat.zero_le _, rfl, But.refl _ _ _, by simpa [movesB, ← HSS.out] using HF.out⟩
                case round =>
                  clear HF
                  rename_i wr
                  obtain ⟨z, hz, rfl, hbz, hf⟩ := hrel
                  obtain ⟨wq, rfl⟩ : ∃ wq : World, wq = wr := ⟨_, rfl⟩
                  by_cases hzn : z ≤ no
                  · have hB := movesB_succ rs k r j s t z
                    by_cases hst : t = k ∧ z = j
                    · rw [if_pos hst, List.append_nil] at hB
                      have hf9 : Fw dep cap lim A n c B m c2 D L Jb Bs rs wo wq ((P ++ movesT rs k r j s t ++ movesB rs k r j s t (z + 1)).foldl (updI J) st) := by rw [hB]; exact hf
                      clear hB hf
                      obtain ⟨rfl, rfl⟩ := hst
                      have q1 : ((t : Int) == (t : Int)) = true := by simp
                      have q2 : ((z : Int) == (z : Int)) = true := by simp
                      go_wp2_with fail
                      all_goals first | (exfalso; omega) | skip
                      go_roundw
                      case rel => exact ⟨z + 1, by omega, by go_num, hbz, hf9⟩
                      case measure => simp [intOf]; omega
                    · rw [if_neg hst] at hB
                      have HB := Lib.hid hB
                      clear hB
                      have q1 : (((t : Int) == (k : Int)) = false) ∨ (((t : Int) == (k : Int)) = true ∧ ((z : Int) == (j : Int)) = false) := by
                        by_cases h : t = k
                        · right
                          have : z ≠ j := fun h2 => hst ⟨h, h2⟩
                          simp
                          omega
                        · left
                          simp
                          omega
                      have HST := Lib.hid hst
                      clear hst
                      go_upto_region 16 with fail
                      go_cut [62] (fun v wc => v = .bool false ∧ wc = wq)
                      case first =>
                        rcases q1 with q1 | ⟨q1, q2⟩
                        all_goals
                          go_wp2_with fail
                          all_goals first | (exfalso; omega) | skip
                          go_meet
                          exact ⟨rfl, rfl⟩
                      case rest =>
                        obtain ⟨rfl, hwc⟩ := hcut
                        have hwc2 := hwc.symm
                        subst hwc2
                        clear hwc q1
                        have HFQ := Lib.hid hf
                        have hlt := hf.lts
                        have HBZ := Lib.hid hbz
                        clear hf hbz
                        go_wp2_with fail
                        refine (cloneRoutes_c (HR.out.ext HFQ.out.ext) (by omega)).mono ?_
                        rintro e w3 ⟨A4, c7, rfl, htop, he3⟩
                        have htop' : Top (fun b => b ≠ L ∧ b ≠ Bs) w3 wq.heap.size 44 (.slice A4 p c7) rs := htop.mono (fun b hb => ⟨by have := hlo; omega, by have := hlo; omega⟩)
                        obtain ⟨g4, cp, A5, n5, c8, r5, hv, hg40, hg41, -, x1, f1, -⟩ := htop'.cell (k := k) (by rw [HL.out]; exact hkp)
                        rw [HL.out] at hv
                        injection hv with hv z1 z2
                        subst hv
                        clear z1 z2
                        have hbq : But L Bs w1 wq := HBT.out.trans HBZ.out
                        have hleft : Sl rI (fun b => (b ≠ L ∧ b ≠ Bs) ∧ b ≠ g4) w3 Al nl cl (leftI r j) := ((hbq.sl HLF.out).mono (fun b hb hlt => ⟨hb, by omega⟩)).ext he3
                        have htop2 := htop'.store (k := k) hleft
                        have HT2 := Lib.hid htop2
                        have hE4 : Ext wq (w3.setCell ⟨g4, k, none⟩ (.slice Al nl cl)) := Ext.st (p := ⟨g4, k, none⟩) (by simp only; omega) he3
                        have HO4 := Lib.hid (((HBZ.out.ext hE4).sl HO.out))
                        have HF4 := Lib.hid (HFQ.out.next hE4)
                        clear htop htop' hleft htop2
                        go_wp2_with fail
                        obtain ⟨w4, hw4⟩ : ∃ w4 : World, w4 = w3.setCell ⟨g4, k, none⟩ (.slice Al nl cl) := ⟨_, rfl⟩
                        rw [← hw4] at HT2 hE4 HO4 HF4 ⊢
                        have hg44 : g4 < w4.heap.size := by rw [hw4]; simpa using hg41
                        have hsz4 := hE4.size
                        clear hw4 x1 f1 hg41 he3
                        go_cut [] (fun wc => Top (fun b => b ≠ L ∧ b ≠ Bs) wc wq.heap.size 44 (.slice (some ⟨g4, 0, none⟩) p c7) ((rs.set k (leftI r j)).set t (putI old s z)) ∧ Ext wq wc)
                        case first =>
                          have HE1 : Hid (∀ (Ad2 : Option Addr), Sl rI (fun b => b ≠ L ∧ b ≠ Bs) w4 Ad2 (no - z) (co - z) (old.drop z) → Calls Try.prog 45 #[.slice (some ⟨w4.heap.size + 1, 0, none⟩) 3 3] ((w4.alloc (.cells #[.int .i64 s] 3)).alloc (.cells #[.slice Ao z co, .slice (some ⟨w4.heap.size, 0, none⟩) 1 1, .slice Ad2 (no - z) (co - z)] 44)).drew fun e w' =>
                              ∃ A6 c9, e = .returned (.slice A6 (putI old s z).length c9) ∧ Own rI w' w4.heap.size 3 (.slice A6 (putI old s z).length c9) (putI old s z).length (putI old s z) ∧ Ext w4 w') := Lib.hid (fun Ad2 hA2 => by
                            have hE : Ext w4 ((w4.alloc (.cells #[.int .i64 s] 3)).alloc (.cells #[.slice Ao z co, .slice (some ⟨w4.heap.size, 0, none⟩) 1 1, .slice Ad2 (no - z) (co - z)] 44)).drew := Ext.dr (Ext.al (Ext.al (Ext.refl _)))
                            refine (concat_c (sl_rows (xs := [old.take z, [s], old.drop z]) (F := fun _ => True) (vs := [.slice Ao z co, .slice (some ⟨w4.heap.size, 0, none⟩) 1 1, .slice Ad2 (no - z) (co - z)]) (Blk.drew (Blk.new_at (t := 44) (by simp))) trivial rfl rfl (by simp) (fun i v x hv hx => ?_)) (by simp) (fun x hx => ?_)).mono ?_
                            · cases i with
                              | zero =>
                                simp only [List.getElem?_cons_zero, Option.some.injEq] at hv hx
                                subst hv hx
                                exact ⟨_, _, _, rfl, ((HO4.out.take hzn).ext hE).mono fun _ _ _ => trivial⟩
                              | succ i =>
                                cases i with
                                | zero =>
                                  simp only [List.getElem?_cons_succ, List.getElem?_cons_zero, Option.some.injEq] at hv hx
                                  subst hv hx
                                  refine ⟨_, _, _, rfl, ?_⟩
                                  have h1 := Sl.laid1 (w := w4) (e := 3) (r := rI) (F := fun _ => True) (g := w4.heap.size) (cs := [.int .i64 s]) (x := s) ⟨rfl, WalkArith.wf_i64 ⟨s0, s1⟩⟩ rfl
                                  exact (h1.ext (Ext.dr (Ext.al (Ext.refl _)))).mono fun _ _ _ => trivial
                                | succ i =>
                                  cases i with
                                  | zero =>
                                    simp only [List.getElem?_cons_succ, List.getElem?_cons_zero, Option.some.injEq] at hv hx
                                    subst hv hx
                                    exact ⟨_, _, _, rfl, (hA2.ext hE).mono fun _ _ _ => trivial⟩
                                  | succ i => simp at hv
                            · have h9 : old.length ≤ 9 := by rw [HO.out.len]; exact hno9
                              simp only [List.mem_cons, List.not_mem_nil, or_false] at hx
                              rcases hx with rfl | rfl | rfl
                              · rw [List.length_take]; omega
                              · simp
                              · rw [List.length_drop]; omega
                            · rintro e w' ⟨v, rfl, hown, he⟩
                              rw [put_flat] at hown
                              obtain ⟨A6, c9, hv, -⟩ := hown.shape
                              subst hv
                              exact ⟨A6, c9, rfl, hown.low (by simp; omega), hE.trans he⟩)
                          have a5 : z ≤ co := by omega
                          have a6 : (z : Int) ≤ (no : Int) := by omega
                          have a7 : (z : Int) ≤ (co : Int) := by omega
                          have htb : t < (rs.set k (leftI r j)).length := by rw [List.length_set, HL.out]; exact htp
                          have HTB := Lib.hid htb
                          clear htb
                          have SL2 := HO4.out.behind hzn
                          cases Ao with
                          | none =>
                            have SL3 := Lib.hid (HE1.out none (by simpa using SL2))
                            clear SL2 HE1
                            go_region_with (
                              go_at_call 45
                              refine SL3.out.mono ?_
                              rintro e w5 ⟨A6, c9, rfl, hown5, he5⟩
                              obtain ⟨g5, cp5, A7, n7, c10, r7, hv5, -, hg51, -, x5, f5, -⟩ := (HT2.out.ext he5).cell (k := t) HTB.out
                              rw [List.length_set, HL.out] at hv5
                              injection hv5 with hv5 z1 z2
                              injection hv5 with hv5
                              injection hv5 with hv5 z3 z4
                              subst hv5
                              clear z1 z2 z3 z4)
                            have hT5 := (HT2.out.ext he5).store (k := t) (hown5.sl.mono (fun b hb _ => ⟨⟨by omega, by omega⟩, by omega⟩))
                            have hX5 := fun u => Ext.st (p := ⟨g4, t, none⟩) (u := u) hg40 (hE4.trans he5)
                            go_wp2_with fail
                            go_meet
                            exact ⟨hT5, hX5 _⟩
                          | some ao =>
                            obtain ⟨Ad2, hAd2⟩ : ∃ Ad2, (if co = z then some ao else some (ao.add z)) = Ad2 := ⟨_, rfl⟩
                            have SL3 := Lib.hid (HE1.out Ad2 (by rw [← hAd2]; simpa using SL2))
                            clear SL2 HE1
                            go_region_with (
                              go_at_call 45
                              refine SL3.out.mono ?_
                              rintro e w5 ⟨A6, c9, rfl, hown5, he5⟩
                              obtain ⟨g5, cp5, A7, n7, c10, r7, hv5, -, hg51, -, x5, f5, -⟩ := (HT2.out.ext he5).cell (k := t) HTB.out
                              rw [List.length_set, HL.out] at hv5
                              injection hv5 with hv5 z1 z2
                              injection hv5 with hv5
                              injection hv5 with hv5 z3 z4
                              subst hv5
                              clear z1 z2 z3 z4)
                            have hT5 := (HT2.out.ext he5).store (k := t) (hown5.sl.mono (fun b hb _ => ⟨⟨by omega, by omega⟩, by omega⟩))
                            have hX5 := fun u => Ext.st (p := ⟨g4, t, none⟩) (u := u) hg40 (hE4.trans he5)
                            go_wp2_with fail
                            go_meet
                            exact ⟨hT5, hX5 _⟩
                        case rest =>
                          obtain ⟨hT5, hX5⟩ := hcut
                          obtain ⟨w6, hw6⟩ : ∃ w6 : World, w6 = wc := ⟨_, rfl⟩
                          rw [← hw6] at hT5 hX5 ⊢
                          clear hw6 HT2 hE4 HF4 HO4
                          obtain ⟨S', hS'⟩ : ∃ S', S' = (P ++ movesT rs k r j s t ++ movesB rs k r j s t z).foldl (updI J) st := ⟨_, rfl⟩
                          have HSS' := Lib.hid hS'
                          have hf6 := HFQ.out.next hX5
                          rw [← hS'] at hf6
                          have HF6 := Lib.hid hf6
                          have hb6 : But L Bs wx w6 := HBZ.out.ext hX5
                          have HB6 := Lib.hid hb6
                          have hMV : movedI rs k r j s t z = if ((rs.set k (leftI r j)).set t (putI old s z)).getD k [] = [] then ((rs.set k (leftI r j)).set t (putI old s z)).eraseIdx k else (rs.set k (leftI r j)).set t (putI old s z) := by rw [HOLD.out]; rfl
                          have hsmall := moved_small (f := k) (a := j) (t := t) (b := z) (s := s) (r := r) H9.out (by rw [HRL.out]; exact hn2)
                          obtain ⟨Q, hQ⟩ : ∃ Q, Q = (rs.set k (leftI r j)).set t (putI old s z) := ⟨_, rfl⟩
                          have hQl : Q.length = p := by rw [hQ, List.length_set, List.length_set, HL.out]
                          rw [← hQ] at hT5 hMV
                          obtain ⟨qs, hqs⟩ : ∃ qs, qs = movedI rs k r j s t z := ⟨_, rfl⟩
                          have HBQ : Hid (movesB rs k r j s t (z + 1) = movesB rs k r j s t z ++ [qs]) := Lib.hid (by rw [hqs]; exact HB.out)
                          rw [← hqs] at hMV hsmall
                          obtain ⟨g7, cp7, A7, n7, c10, r7, hv7, -, hg71, hr7, x7, -, hs7⟩ := hT5.cell (k := k) (by rw [hQl]; exact hkp)
                          rw [hQl] at hv7
                          injection hv7 with hv7 z1 z2
                          injection hv7 with hv7
                          injection hv7 with hv7 z3 z4
                          subst hv7
                          clear z1 z2 z3 z4
                          have hl7 := hs7.len
                          have hgd : Q.getD k [] = r7 := by rw [List.getD_eq_getElem?_getD, hr7.out]; rfl
                          rw [hgd] at hMV
                          have hm7 := hs7.max
                          have hle7 := hs7.le
                          unfold maxLen at hm7
                          have HSM := Lib.hid hsmall
                          have HT5 := Lib.hid hT5
                          have HQL := Lib.hid hQl
                          have hp1 : p - 1 ≤ 1000 := by omega
                          have hLB : Hid (∀ b, wq.heap.size ≤ b → b ≠ L ∧ b ≠ Bs) := Lib.hid (fun b hb => ⟨by omega, by omega⟩)
                          by_cases h0 : n7 = 0
                          · have hr0 : r7 = [] := List.eq_nil_of_length_eq_zero (by omega)
                            rw [if_pos hr0] at hMV
                            have HMV := Lib.hid hMV
                            subst h0
                            have b1 : IntKind.i64.wrap ((k : Int) + 1) = (k : Int) + 1 := IntWalk.i64_in _ (by omega)
                            clear hMV hgd hr0 hl7 hs7 hr7 hS' hf6 hb6 hqs hQ hT5 hQl hsmall
                            go_wp2_with fail
                            refine (delete_c HT5.out HQL.out hkp (by omega)).mono ?_
                            rintro e w7 ⟨rfl, hT7, hx7⟩
                            have hE7 : Ext wq w7 := hx7 wq hg40 hX5
                            have hf7 := HFQ.out.next hE7
                            have HS7 : Hid (Sl rRows (fun b => b ≠ L ∧ b ≠ Bs) w7 (some ⟨g4, 0, none⟩) (p - 1) c7 qs) := Lib.hid (by rw [HMV.out]; exact hT7.slF hLB.out (fun b hb => hb))
                            rw [← HSS'.out] at hf7
                            have HF7 := Lib.hid hf7
                            have HB7 : Hid (But L Bs wx w7) := Lib.hid (HBZ.out.ext hE7)
                            clear hT7 hx7 hf7 hE7
                            go_wp2_with fail
                            refine (TRY _ S' _ _ _ _ HF7.out HS7.out hp1 HSM.out).mono ?_
                            rintro e w9 ⟨rfl, hf9, hb9⟩
                            have hf10 : Fw dep cap lim A n c B m c2 D L Jb Bs rs wo w9 ((P ++ movesT rs k r j s t ++ movesB rs k r j s t (z + 1)).foldl (updI J) st) := by
                              rw [HBQ.out, ← List.append_assoc, List.foldl_append, ← HSS'.out]
                              exact hf9
                            have hb10 := HB7.out.trans hb9
                            clear hf9 hb9
                            go_wp2_with fail
                            all_goals first | (exfalso; omega) | skip
                            go_roundw
                            case rel => exact ⟨z + 1, by omega, by go_num, hb10, hf10⟩
                            case measure => simp [intOf]; omega
                          · have hr0 : ¬ r7 = [] := fun h => h0 (by rw [← hl7, h]; rfl)
                            rw [if_neg hr0] at hMV
                            have HS7 : Hid (Sl rRows (fun b => b ≠ L ∧ b ≠ Bs) w6 (some ⟨g4, 0, none⟩) p c7 qs) := Lib.hid (by rw [hMV]; exact hT5.slF hLB.out (fun b hb => hb))
                            have q5 : ((n7 : Int) == 0) = false := by simp; omega
                            clear hMV hgd hr0 hl7 hs7 hr7 hS' hf6 hb6 hqs hQ hT5 hQl hsmall
                            go_wp2_with fail
                            refine (TRY _ S' _ _ _ _ HF6.out HS7.out (by omega) HSM.out).mono ?_
                            rintro e w9 ⟨rfl, hf9, hb9⟩
                            have hf10 : Fw dep cap lim A n c B m c2 D L Jb Bs rs wo w9 ((P ++ movesT rs k r j s t ++ movesB rs k r j s t (z + 1)).foldl (updI J) st) := by
                              rw [HBQ.out, ← List.append_assoc, List.foldl_append, ← HSS'.out]
                              exact hf9
                            have hb10 := HB6.out.trans hb9
                            clear hf9 hb9
                            go_wp2_with fail
                            all_goals first | (exfalso; omega) | skip
                            go_roundw
                            case rel => exact ⟨z + 1, by omega, by go_num, hb10, hf10⟩
                            case measure => simp [intOf]; omega
                  · obtain rfl : z = no + 1 := by omega
                    have hf9 : Fw dep cap lim A n c B m c2 D L Jb Bs rs wo wq ((P ++ movesT rs k r j s (t + 1)).foldl (updI J) st) := by
                      rw [movesT_succ, ← List.append_assoc, ← HOLD.out, HO.out.len]
                      exact hf
                    have hbt9 : But L Bs w1 wq := HBT.out.trans hbz
                    clear hf
                    have q3 : decide (((no + 1 : Nat) : Int) ≤ (no : Int)) = false := by simp; omega
                    go_wp2_with fail
                    all_goals first | (exfalso; omega) | skip
                    go_roundw
                    case rel => exact ⟨t + 1, by omega, by go_num, hbt9, hf9⟩
                    case measure => simp [intOf]; omega
            · obtain rfl : t = p := by omega
              have hf9 : Fw dep cap lim A n c B m c2 D L Jb Bs rs wo wx ((movesF rs k ++ movesA rs k r (j + 1)).foldl (updI J) st) := by
                rw [movesA_succ HSJ.out, ← List.append_assoc, ← HP.out, HL.out]
                exact hf
              clear hf hbt
              go_wp2_with fail
              all_goals first | (exfalso; omega) | skip
              go_roundw
              case rel => exact ⟨j + 1, by omega, by go_num, hf9⟩
              case measure => simp [intOf]; omega
        · obtain rfl : j = n2 := by omega
          have hf9 : Fw dep cap lim A n c B m c2 D L Jb Bs rs wo wy ((movesF rs (k + 1)).foldl (updI J) st) := by
            rw [movesF_succ HX.out, HRL.out]
            exact hf
          clear hf
          go_wp2_with fail
          all_goals first | (exfalso; omega) | skip
          go_roundw
          case rel => exact ⟨k + 1, by omega, by go_num, hf9⟩
          case measure => simp [intOf]; omega
    · obtain rfl : k = p := by omega
      go_wp2_with fail
      all_goals first | (exfalso; omega) | skip
      go_end0
      exact ⟨rfl, hf⟩
end
end Go.Proofs.Ytmgokaancnifeaa
