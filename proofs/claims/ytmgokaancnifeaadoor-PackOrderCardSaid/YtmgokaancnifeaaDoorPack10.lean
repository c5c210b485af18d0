/-
  PackBack, stepped through: it returns true. Conditions: errors.errorType holds its type; the reading.
-/
import Derived.Test.YtmgokaancnifeaaDoorPack9
namespace Go.Proofs.YtmgokaancnifeaaDoor
set_option linter.unusedVariables false
set_option linter.unusedSimpArgs false
set_option linter.unusedSectionVars false
set_option linter.unnecessarySimpa false
open Go Go.RowKit

abbrev rU16 : Rd Int := Rd.int .u16
theorem wf_u16b {x : Int} (h : (Lit.int .u16 x).wf = true) : 0 ≤ x ∧ x ≤ 65535 := by
  simp [Lit.wf, IntKind.min, IntKind.max, IntKind.signed, IntKind.bits] at h
  omega
theorem Sl.u16 {F : Nat → Prop} {w : World} {A : Option Addr} {n c : Nat} {xs : List Int} (h : Sl rU16 F w A n c xs) {k : Nat} (hk : k < n) :
    ∃ b o x, A = some ⟨b, o, none⟩ ∧ b < w.heap.size ∧ Hid (xs[k]? = some x) ∧ w.cell? ⟨b, o + k, none⟩ = some (.int .u16 x) ∧ 0 ≤ x ∧ x ≤ 65535 := by
  obtain ⟨b, o, x, cs, hA, _, hlt, hx, hc, hcs, hwf⟩ := h.get hk
  have hb := wf_u16b hwf
  refine ⟨b, o, x, hA, hlt, hx, ?_, hb.1, hb.2⟩
  have := hc 0 (.int .u16 x) (by rw [hcs]; rfl)
  simpa [Rd.int] using this
def lowOf (xs : List Int) : List Int := xs.map (· % 4096)
def cntOf (xs : List Int) : List Int := xs.map (fun x => x % 4096 + 1)
theorem cErr_none : ∀ {l : List Int} {i : Int}, (∀ w ∈ l, 0 ≤ w ∧ w ≤ 63) → cErr l i = none
  | [], _, _ => rfl
  | c :: r, i, h => by
    have h1 := h c (by simp)
    rw [cErr, if_neg (by omega)]
    exact cErr_none fun w hw => h w (by simp [hw])
theorem wErr_none : ∀ {l : List Int} {i : Int}, (∀ w ∈ l, 0 ≤ w ∧ w ≤ 4096) → wErr l i = none
  | [], _, _ => rfl
  | c :: r, i, h => by
    have h1 := h c (by simp)
    rw [wErr, if_neg (by omega)]
    exact wErr_none fun w hw => h w (by simp [hw])
theorem back_one (x : Int) : 0 ≤ widthN (x % 4096 + 1) ∧ widthN (x % 4096 + 1) ≤ 12 ∧ 0 ≤ x % 4096 ∧ x % 4096 < 2 ^ (widthN (x % 4096 + 1)).toNat ∧ (0 < widthN (x % 4096 + 1) → (2 : Int) ^ (widthN (x % 4096 + 1) - 1).toNat ≤ x % 4096) := by
  have h0 : 0 ≤ x % 4096 := Int.emod_nonneg _ (by decide)
  have h1 : x % 4096 < 4096 := Int.emod_lt_of_pos _ (by decide)
  obtain ⟨a1, a2, a3, a4⟩ := widthN_spec (c := x % 4096 + 1) (by omega) (by omega)
  refine ⟨a1, a2, h0, by omega, fun h => ?_⟩
  have := a4 (widthN (x % 4096 + 1) - 1).toNat (by omega)
  omega
theorem back_pErr : ∀ (xs : List Int) (i : Int), pErr (lowOf xs) (widthsOf (cntOf xs)) i = none
  | [], _ => by simp [lowOf, pErr]
  | x :: xs, i => by
    obtain ⟨a1, a2, a3, a4, -⟩ := back_one x
    have := back_pErr xs (i + 1)
    simp only [lowOf, cntOf, widthsOf, List.map_cons, pErr] at this ⊢
    rw [if_neg (by omega)]
    exact this
theorem back_widths {xs : List Int} (h : xs.length ≤ 6) : widthsErr (cntOf xs) = none := by
  rw [widthsErr, if_neg (by simp [cntOf]; omega)]
  refine wErr_none fun w hw => ?_
  obtain ⟨x, -, rfl⟩ := List.mem_map.1 hw
  have h0 : 0 ≤ x % 4096 := Int.emod_nonneg _ (by decide)
  have h1 : x % 4096 < 4096 := Int.emod_lt_of_pos _ (by decide)
  exact ⟨by omega, by omega⟩
theorem back_in {xs : List Int} : ∀ w ∈ widthsOf (cntOf xs), 0 ≤ w ∧ w ≤ 12 := fun w hw => by
  obtain ⟨c, hc, rfl⟩ := List.mem_map.1 hw
  obtain ⟨x, -, rfl⟩ := List.mem_map.1 hc
  obtain ⟨a1, a2, -⟩ := back_one x
  exact ⟨a1, a2⟩
theorem back_check {xs : List Int} (h : xs.length ≤ 6) : checkErr (widthsOf (cntOf xs)) = if 63 < (widthsOf (cntOf xs)).sum then some (packW, 1, 4) else none := by
  rw [checkErr, if_neg (by simp [cntOf, widthsOf]; omega), cErr_none fun w hw => by have := back_in w hw; omega]
section
variable {w w' : World} {base : Nat} {e : TypeId} {size n : Nat} {u : Value} {xs : List Value} {row : Option Nat}
theorem own_keepG (h : w.ownsRow base e size u n xs) (hg : w.grownBy w' row) (hne : ∀ g, u.ownBlock = some g → row ≠ some g) : w'.ownsRow base e size u n xs := by
  refine ⟨h.1, ?_⟩
  rcases h.2 with h0 | ⟨g, cap, cur, hv, hb, hgg, r⟩
  · exact .inl h0
  · have hub : u.ownBlock = some g := by rw [hv]; rfl
    exact .inr ⟨g, cap, cur, hv, hb, (hg.block g (Array.getElem?_eq_some_iff.1 hgg).1 (fun e => hne g hub e.symm)).trans hgg, r⟩
end
/-- Two rows of the call's own, apart. -/
def Apart (u v : Value) : Prop := ∀ g, u.ownBlock = some g → v.ownBlock ≠ some g
section
variable {F : Nat → Prop} {A : Option Addr} {n c q : Nat} {l cs xs : List Int} {w : World} {r : Err3}
theorem packWidths_n (h : widthsErr cs = r) (h2 : okL r (widthsOf cs) = l) (hl : l.length = q) (hs : Sl rI F w A n c cs) : Calls Tryd.prog 33 #[.slice A n c] w fun e w' => ∃ B c' v, e = .returned (.tuple #[.slice B q c', v]) ∧ ErrIs (fun _ => True) w' v r ∧ Sl rI (fun b => w.heap.size ≤ b) w' B q c' l ∧ Ext w w' := by
  subst hl
  exact packWidths_v h h2 hs
theorem packUnpack_n {ws : List Int} {id : Int} (h : unErr id ws = r) (h2 : okL r (unI id ws) = l) (hl : l.length = q) (i0 : 0 ≤ id) (i1 : id < 18446744073709551616) (hs : Sl rI F w A n c ws) : Calls Tryd.prog 37 #[.int .u64 id, .slice A n c] w fun e w' => ∃ B c' v, e = .returned (.tuple #[.slice B q c', v]) ∧ ErrIs (fun _ => True) w' v r ∧ Sl rI (fun b => w.heap.size ≤ b) w' B q c' l ∧ Ext w w' := by
  subst hl
  exact packUnpack_v h h2 i0 i1 hs
set_option maxRecDepth 100000 in
set_option maxHeartbeats 16000000 in
theorem packback_c (hs : Sl rU16 F w A n c xs) (hg : HandleIs w) : Calls Tryd.prog 7 #[.slice A n c] w fun e w' => e = .returned (.bool true) ∧ Ext w w' := by
  have hm1 := hs.max
  have hl1 := hs.le
  unfold maxLen at hm1
  have HL := Lib.hid hs.len
  have HS := fun W (h : Ext w W) => hs.ext h
  have HG := fun W (h : Ext w W) => hg.ext h
  go_enter Tryd.func7, Tryd.ntmps7
  go_wp2_with fail
  refine (known12_c hg).mono ?_
  rintro e w1 ⟨rfl, x1⟩
  clear hg hs
  by_cases h6 : 6 < n
  · go_wp2_with fail
    all_goals first | (exfalso; omega) | skip
    go_ret
    exact ⟨rfl, x1⟩
  go_wp2_with fail
  all_goals first | (exfalso; omega) | skip
  have hsz1 := x1.size
  go_loopw [3, 4, 6] (fun u v i wr => ∃ k : Nat, k ≤ n ∧ i = .int .i64 k ∧ wr.ownsRow w1.heap.size 3 1 u k ((lowOf (xs.take k)).map (Value.int .i64)) ∧ wr.ownsRow w1.heap.size 3 1 v k ((cntOf (xs.take k)).map (Value.int .i64)) ∧ Apart u v ∧ w1.heap.size ≤ wr.heap.size ∧ Ext w wr) (fun _ _ i _ => n - (intOf i).toNat)
  case atStart => exact ⟨0, Nat.zero_le _, rfl, ⟨by simp [lowOf], .inl ⟨rfl, by simp [lowOf]⟩⟩, ⟨by simp [cntOf], .inl ⟨rfl, by simp [cntOf]⟩⟩, fun g h => (by cases h), Nat.le_refl _, x1⟩
  case round =>
    obtain ⟨k, hk, rfl, hown, hownC, hap, hz, he⟩ := hrel
    obtain ⟨wz, rfl⟩ : ∃ wz : World, wz = wr := ⟨_, rfl⟩
    obtain ⟨AL, cL, rfl, hAL⟩ := own_shape hown
    obtain ⟨AC, cC, rfl, hAC⟩ := own_shape hownC
    by_cases hkn : k < n
    · obtain ⟨b, o, x, rfl, hbl, hx, c0, p0, p1⟩ := (HS _ he).u16 hkn
      have h0 : 0 ≤ x % 4096 := Int.emod_nonneg _ (by decide)
      have h1 : x % 4096 < 4096 := Int.emod_lt_of_pos _ (by decide)
      have HLX : Hid (lowOf (xs.take (k + 1)) = lowOf (xs.take k) ++ [x % 4096]) := Lib.hid (by rw [takeC hx.out]; simp [lowOf])
      have HCX : Hid (cntOf (xs.take (k + 1)) = cntOf (xs.take k) ++ [x % 4096 + 1]) := Lib.hid (by rw [takeC hx.out]; simp [cntOf])
      obtain ⟨y, hy⟩ : ∃ y, x % 4096 = y := ⟨_, rfl⟩
      rw [hy] at h0 h1 HLX HCX
      have hCl : ∀ g, (Value.slice AC k cC).ownBlock = some g → g < wz.heap.size := fun g hg => (hownC.lt g hg).2
      have hLl : ∀ g, (Value.slice AL k cL).ownBlock = some g → g < wz.heap.size := fun g hg => (hown.lt g hg).2
      clear hx
      go_wp2_with (first
        | (at_builtin; refine wpL_append1 tyInts rfl (.tmp 32) (.tmp 34) rfl rfl hown #[.int .i64 y] rfl rfl (by simp [Value.oneCell']) (by omega) hz ?_; intro g3 cap3 w3 hown3 hgr3 hat3 hlt3; have hownC3 := own_keepG hownC hgr3 (fun g hg e => hap g e hg); have hz3 : w1.heap.size ≤ w3.heap.size := Nat.le_trans hz hgr3.size)
        | (at_builtin; refine wpL_append1 tyInts rfl (.tmp 36) (.tmp 39) rfl rfl hownC3 #[.int .i64 (y + 1)] rfl rfl (by simp [Value.oneCell']) (by omega) hz3 ?_; intro g4 cap4 w4 hown4 hgr4 hat4 hlt4))
      all_goals first | (exfalso; omega) | skip
      have hE3 : Ext w w3 := below_own he hown hgr3 hsz1 (by omega)
      have hE4 : Ext w w4 := below_own hE3 hownC3 hgr4 hsz1 (by omega)
      have hne3 : ∀ g, (Value.slice (some ⟨g3, 0, none⟩) (k + 1) cap3).ownBlock = some g → (Value.slice AC k cC).ownBlock ≠ some g := by
        intro g hg hC
        obtain rfl : g3 = g := by simpa [Value.ownBlock] using hg
        rcases hat3 with h | h
        · exact hap _ h hC
        · have := hCl _ hC; omega
      have hown3' := own_keepG hown3 hgr4 hne3
      have hz4 := hgr4.size
      go_roundw
      case rel => exact ⟨k + 1, by omega, by go_num, by rw [HLX.out]; simpa using hown3', by rw [HCX.out]; simpa using hown4, by
        intro g hg hC
        obtain rfl : g3 = g := by simpa [Value.ownBlock] using hg
        obtain rfl : g4 = g3 := by simpa [Value.ownBlock] using hC
        rcases hat4 with h | h
        · exact hne3 _ rfl h
        · omega, by omega, hE4⟩
      case measure => simp [intOf]; omega
    · obtain rfl : k = n := by omega
      have ht : xs.take k = xs := List.take_of_length_le (by rw [HL.out]; omega)
      rw [ht] at hown hownC
      have hLs : Sl rI (fun b => w1.heap.size ≤ b) wz AL k cL (lowOf xs) := Sl.of_own_ints hown (fun g h => h) fun y hy => by
        obtain ⟨x, -, rfl⟩ := List.mem_map.1 hy
        have h0 : 0 ≤ x % 4096 := Int.emod_nonneg _ (by decide)
        have h1 : x % 4096 < 4096 := Int.emod_lt_of_pos _ (by decide)
        exact WalkArith.wf_i64 (by omega)
      have hCs : Sl rI (fun b => w1.heap.size ≤ b) wz AC k cC (cntOf xs) := Sl.of_own_ints hownC (fun g h => h) fun y hy => by
        obtain ⟨x, -, rfl⟩ := List.mem_map.1 hy
        have h0 : 0 ≤ x % 4096 := Int.emod_nonneg _ (by decide)
        have h1 : x % 4096 < 4096 := Int.emod_lt_of_pos _ (by decide)
        exact WalkArith.wf_i64 (by omega)
      obtain ⟨W, hW⟩ : ∃ W, widthsOf (cntOf xs) = W := ⟨_, rfl⟩
      have hWl : W.length = k := by rw [← hW]; simp [widthsOf, cntOf, HL.out]
      have HWL := Lib.hid hWl
      have HWE := Lib.hid (back_widths (xs := xs) (by rw [HL.out]; omega))
      have HWK := Lib.hid (back_check (xs := xs) (by rw [HL.out]; omega))
      have HPE := Lib.hid (back_pErr xs 0)
      have HWI := Lib.hid (back_in (xs := xs))
      have HWD := Lib.hid hW
      rw [hW] at HWK HPE HWI
      clear hown hownC hap hAL hAC ht hWl hW
      go_wp2_with fail
      all_goals first | (exfalso; omega) | skip
      refine (packWidths_n (l := W) HWE.out HWD.out HWL.out hCs).mono ?_
      rintro e w2 ⟨B2, c2, v2, rfl, hv2, hW2, x2⟩
      obtain rfl : v2 = .nilIface := hv2
      have hL2 := hLs.ext x2
      have hE2 := he.trans x2
      have hm2 := hW2.max
      have hm3 := hL2.max
      have hle2 := hW2.le
      have hle3 := hL2.le
      unfold maxLen at hm2 hm3
      clear hCs hLs he x2 hz
      have hkk : ((k : Int) != (k : Int)) = false := by simp
      go_wp2_with fail
      all_goals first | (exfalso; omega) | skip
      go_loopw [5, 10] (fun s i wr => ∃ j : Nat, ∃ t : Int, j ≤ k ∧ i = .int .i64 j ∧ s = .int .i64 t ∧ 0 ≤ t ∧ t ≤ 72 ∧ Hid (t ≤ 12 * j ∧ t = (W.take j).sum) ∧ Ext w2 wr) (fun _ i _ => k - (intOf i).toNat)
      case atStart => exact ⟨0, 0, Nat.zero_le _, rfl, rfl, by omega, by omega, Lib.hid ⟨by omega, by simp⟩, Ext.refl _⟩
      case round =>
        obtain ⟨j, t, hj, rfl, rfl, t0, t1, ht, hx2⟩ := hrel
        obtain ⟨wy, rfl⟩ : ∃ wy : World, wy = wr := ⟨_, rfl⟩
        by_cases hjk : j < k
        · obtain ⟨b, o, y, rfl, hbl, hy, c0, -, -⟩ := (hW2.ext hx2).int hjk
          obtain ⟨b', o', c, rfl, hbl', hc, c0', -, -⟩ := (hL2.ext hx2).int hjk
          have hxl : j < xs.length := by rw [HL.out]; exact hjk
          obtain ⟨x0, hx0⟩ : ∃ x0, xs[j]? = some x0 := ⟨_, List.getElem?_eq_getElem hxl⟩
          have hcx : c = x0 % 4096 := by
            have := hc.out
            simp only [lowOf, List.getElem?_map, hx0, Option.map_some, Option.some.injEq] at this
            exact this.symm
          have hyx : y = widthN (x0 % 4096 + 1) := by
            have := hy.out
            rw [← HWD.out] at this
            simp only [widthsOf, cntOf, List.getElem?_map, hx0, Option.map_some, Option.some.injEq] at this
            exact this.symm
          obtain ⟨y0, y12, cc0, cc1, cc2⟩ := back_one x0
          rw [← hyx] at y0 y12 cc1 cc2
          rw [← hcx] at cc0 cc1 cc2
          have HT : Hid (t + y ≤ 12 * ((j + 1 : Nat) : Int) ∧ t + y = (W.take (j + 1)).sum) := Lib.hid ⟨by have := ht.out.1; push_cast; omega, by rw [takeC hy.out, sum_app, ht.out.2]; simp⟩
          have yu : IntKind.u64.wrap y = y := by simp [IntKind.wrap, IntKind.bits, IntKind.signed]; omega
          have d1 : decide (y < 0) = false := by simp; omega
          have d2 : decide (12 < y) = false := by simp; omega
          have hq : c / 2 ^ y.toNat = 0 := Int.ediv_eq_zero_of_lt cc0 cc1
          have hqb : (c / 2 ^ y.toNat != 0) = false := by simp [hq]
          have hty : t + y ≤ 72 := by have := HT.out.1; push_cast at this; omega
          have j1 : (j : Int) < (k : Int) := by omega
          clear hcx hyx hx0 hxl hy hc hq cc1
          by_cases hyp : 0 < y
          · have d3 : decide (0 < y) = true := by simp; omega
            have y1u : IntKind.u64.wrap (y - 1) = y - 1 := by simp [IntKind.wrap, IntKind.bits, IntKind.signed]; omega
            have hq2 : ¬ c / 2 ^ (y - 1).toNat = 0 := fun h => (stands cc0 (by omega)).1 h (cc2 hyp)
            rw [show (y - 1).toNat = y.toNat - 1 by omega] at hq2
            have hqb2 : (c / 2 ^ (y.toNat - 1) == 0) = false := by simpa using hq2
            clear hq2 cc2
            go_wp2_with (go_quiet (fail))
            all_goals first | (exfalso; omega) | skip
            go_roundw
            case rel => exact ⟨j + 1, t + y, by omega, by go_num, rfl, by omega, hty, HT, (by repeat (first | exact Ext.refl _ | assumption | refine Ext.al ?_ | refine Ext.dr ?_ | refine Ext.dn ?_ | (refine Ext.st ?_ ?_; · first | omega | (simp; done) | (simp; omega)) | refine Ext.trans ?_ (by assumption)))⟩
            case measure => simp [intOf]; omega
          · have d3 : decide (0 < y) = false := by simp; omega
            clear cc2
            go_wp2_with (go_quiet (fail))
            all_goals first | (exfalso; omega) | skip
            go_roundw
            case rel => exact ⟨j + 1, t + y, by omega, by go_num, rfl, by omega, hty, HT, (by repeat (first | exact Ext.refl _ | assumption | refine Ext.al ?_ | refine Ext.dr ?_ | refine Ext.dn ?_ | (refine Ext.st ?_ ?_; · first | omega | (simp; done) | (simp; omega)) | refine Ext.trans ?_ (by assumption)))⟩
            case measure => simp [intOf]; omega
        · obtain rfl : j = k := by omega
          have hts : W.sum = t := by rw [ht.out.2, List.take_of_length_le (by rw [HWL.out]; omega)]
          rw [hts] at HWK
          have HTS := Lib.hid hts
          have hWy := hW2.ext hx2
          have hLy := hL2.ext hx2
          have hEy := hE2.trans hx2
          clear hts hW2 hL2 hE2 hx2
          by_cases hbig : 63 < t
          · rw [if_pos hbig] at HWK
            have HPK := Lib.hid (packErr_bad (cs := lowOf xs) HWK.out)
            go_wp2_with fail
            all_goals first | (exfalso; omega) | skip
            refine (packPack_v (x := 0) HPK.out rfl hLy hWy).mono ?_
            rintro e w3 ⟨v3, rfl, hv3, x3⟩
            go_wp2_with fail
            all_goals first | (exfalso; omega) | skip
            refine (At_c packW 1 4 _ (by decide) (by decide)).mono ?_
            rintro e w4 ⟨A4, c4, rfl, hs4, x4⟩
            go_wp2_with fail
            refine (tells_two (HG _ (by repeat (first | exact Ext.refl _ | assumption | refine Ext.al ?_ | refine Ext.dr ?_ | refine Ext.dn ?_ | (refine Ext.st ?_ ?_; · first | omega | (simp; done) | (simp; omega)) | refine Ext.trans ?_ (by assumption)))) (hv3.ext x4) hs4).mono ?_
            rintro e w5 ⟨rfl, x5⟩
            go_wp2_with fail
            go_ret
            exact ⟨rfl, (by repeat (first | exact Ext.refl _ | assumption | refine Ext.al ?_ | refine Ext.dr ?_ | refine Ext.dn ?_ | (refine Ext.st ?_ ?_; · first | omega | (simp; done) | (simp; omega)) | refine Ext.trans ?_ (by assumption)))⟩
          · rw [if_neg hbig] at HWK
            have hll : (lowOf xs).length = W.length := by rw [HWL.out]; simp [lowOf, HL.out]
            have hll2 : (lowOf xs).length = j := by rw [hll, HWL.out]
            have HPK : Hid (packErr (lowOf xs) W = none) := Lib.hid (by rw [packErr_in HWK.out hll]; exact HPE.out)
            have hwn : ∀ w ∈ W, 0 ≤ w := fun w hw => (HWI.out w hw).1
            obtain ⟨u1, u2⟩ := un_pack hll HPE.out
            have hbd := packI_bd HPE.out hwn
            rw [HTS.out] at hbd
            obtain ⟨id, hid⟩ : ∃ id, packI (lowOf xs) W = id := ⟨_, rfl⟩
            rw [hid] at u1 u2 hbd
            have hp63 := two63 (a := t) (by omega)
            have HUE : Hid (unErr id W = none) := Lib.hid (by rw [unErr_in HWK.out, if_pos u2])
            have HUI : Hid (okL none (unI id W) = lowOf xs) := Lib.hid u1
            have HID := Lib.hid hid
            have HLL := Lib.hid hll2
            obtain ⟨i0, i1⟩ := hbd
            have hq : id / 2 ^ t.toNat = 0 := Int.ediv_eq_zero_of_lt i0 i1
            have hqb : (id / 2 ^ t.toNat == 0) = true := by simp [hq]
            have tu : IntKind.u64.wrap t = t := by simp [IntKind.wrap, IntKind.bits, IntKind.signed]; omega
            have i64b : id < 18446744073709551616 := by omega
            clear hll hll2 hwn u1 u2 hid hp63 hq i1
            go_wp2_with fail
            all_goals first | (exfalso; omega) | skip
            refine (packPack_v (x := id) HPK.out HID.out hLy hWy).mono ?_
            rintro e w3 ⟨v3, rfl, hv3, x3⟩
            obtain rfl : v3 = .nilIface := hv3
            go_wp2_with fail
            all_goals first | (exfalso; omega) | skip
            refine (packUnpack_n HUE.out HUI.out HLL.out i0 i64b (hWy.ext x3)).mono ?_
            rintro e w4 ⟨B4, c4, v4, rfl, hv4, hx4, x4⟩
            obtain rfl : v4 = .nilIface := hv4
            go_wp2_with fail
            all_goals first | (exfalso; omega) | skip
            refine (sameInts_v hx4 (hLy.ext (by repeat (first | exact Ext.refl _ | assumption | refine Ext.al ?_ | refine Ext.dr ?_ | refine Ext.dn ?_ | (refine Ext.st ?_ ?_; · first | omega | (simp; done) | (simp; omega)) | refine Ext.trans ?_ (by assumption)))) rfl).mono ?_
            rintro e w5 ⟨rfl, x5⟩
            go_wp2_with fail
            all_goals first | (exfalso; omega) | skip
            go_ret
            exact ⟨rfl, (by repeat (first | exact Ext.refl _ | assumption | refine Ext.al ?_ | refine Ext.dr ?_ | refine Ext.dn ?_ | (refine Ext.st ?_ ?_; · first | omega | (simp; done) | (simp; omega)) | refine Ext.trans ?_ (by assumption)))⟩
end
end Go.Proofs.YtmgokaancnifeaaDoor
