/-
  Contract of the document's Place and Ids, over cells that may be, of at most 60 vertices.
-/
import Derived.Test.YtlaobpnbnfoadaaGreatDoorQ17
import Derived.Test.YtlaobpnbnfoadaaGreatDoorQPack6
namespace Go.Proofs.YtlaobpnbnfoadaaGreatDoor
set_option linter.unusedVariables false
set_option linter.unusedSimpArgs false
set_option linter.unusedSectionVars false
set_option linter.unnecessarySimpa false
open Go Go.RowKit

theorem wr_shape {F : Nat → Prop} {w : World} {v : Value} {r : Err3} (h : WrIs F w v r) : ∃ A n c e, v = .agg #[.slice A n c, .int .i64 e] := by
  cases r with
  | none => obtain ⟨A, n, c, h1⟩ := h; exact ⟨_, _, _, _, h1⟩
  | some x => obtain ⟨-, A, c, h1, -⟩ := h; exact ⟨_, _, _, _, h1⟩
/-- How many are alike at most, of those below. -/
def kmaxI (ups : List Int) : Nat → Int
  | 0 => 0
  | c + 1 => max (kmaxI ups c) (ups.count (c : Int) : Int)
theorem kmaxI_nn (ups : List Int) : ∀ c, 0 ≤ kmaxI ups c
  | 0 => Int.le_refl _
  | c + 1 => by have := kmaxI_nn ups c; rw [kmaxI]; omega
theorem kmaxI_ge (ups : List Int) : ∀ c (j : Nat), j < c → (ups.count (j : Int) : Int) ≤ kmaxI ups c
  | 0, _, h => by omega
  | c + 1, j, h => by
    rw [kmaxI]
    by_cases e : j = c
    · subst e; omega
    · have := kmaxI_ge ups c j (by omega); omega
theorem kmaxI_le (ups : List Int) {m : Int} (h0 : 0 ≤ m) (h : ∀ u : Int, (ups.count u : Int) ≤ m) : ∀ c, kmaxI ups c ≤ m
  | 0 => h0
  | c + 1 => by have := kmaxI_le ups h0 h c; have := h (c : Int); rw [kmaxI]; omega
theorem kmaxI_plc {ups : List Int} {m : Nat} (h : ∀ u ∈ ups, 0 ≤ u ∧ u < m) : kmaxI ups m = mostOf (plc ups) := by
  obtain ⟨h1, h2⟩ := plc_most ups
  have h3 := kmaxI_le ups (mostOf_nonneg _) h1 m
  rcases h2 with h2 | ⟨u, hu, h2⟩
  · have := kmaxI_nn ups m; omega
  · have hb := h u hu
    obtain ⟨j, rfl⟩ := Int.eq_ofNat_of_zero_le hb.1
    have := kmaxI_ge ups m j (by omega)
    omega
theorem firstAt_one {xs : List Int} {v i j : Int} (h : FirstAt xs v i) (h' : FirstAt xs v j) : i = j := by
  rcases h with ⟨k, rfl, h1, h2⟩ | ⟨rfl, h1⟩ <;> rcases h' with ⟨k', rfl, g1, g2⟩ | ⟨rfl, g1⟩
  · rcases Nat.lt_trichotomy k k' with e | e | e
    · exact absurd h1 (g2 k e)
    · rw [e]
    · exact absurd g1 (h2 k' e)
  · exact absurd (List.mem_of_getElem? h1) g1
  · exact absurd (List.mem_of_getElem? g1) h1
  · rfl
theorem firstAt_of {ups : List Int} {c : Nat} {u : Int} (h : ups[c]? = some u) : FirstAt (ofI ups u) (c : Int) ((ups.take c).count u : Int) := by
  have h1 := ofUp_at h ups.length (List.getElem?_eq_some_iff.1 h).1
  refine .inl ⟨(ups.take c).count u, rfl, h1, fun j hj hx => ?_⟩
  have ha := List.pairwise_iff_getElem.1 (ofUp_asc ups u ups.length)
  have l1 := List.getElem?_eq_some_iff.1 h1
  have l2 := List.getElem?_eq_some_iff.1 hx
  have := ha j _ l2.1 l1.1 hj
  have e1 := l1.2
  have e2 := l2.2
  simp only [ofI] at e2
  omega
section
variable {F : Nat → Prop} {A : Option Addr} {n c nv : Nat} {p : List (List Int)} {xs : List Int} {w : World}
set_option maxRecDepth 100000 in
set_option maxHeartbeats 4000000 in
theorem place_c (v : Int) (hs : Sl rI F w A n c xs) : Calls Tryz.prog 53 #[.slice A n c, .int .i64 v] w (IndexPost xs v w) := by
  have HL := Lib.hid hs.len
  have hm := hs.max
  have hle := hs.le
  unfold maxLen at hm
  go_enter Tryz.func53, Tryz.ntmps53
  go_wp2_with fail
  go_loop [5] (fun i => ∃ k : Nat, k ≤ n ∧ i = .int .i64 k ∧ Hid (∀ j, j < k → xs[j]? ≠ some v)) (fun i => n - (intOf i).toNat)
  case atStart => exact ⟨0, Nat.zero_le _, rfl, Lib.hid fun j h => by omega⟩
  case round =>
    obtain ⟨k, hk, rfl, hu⟩ := hrel
    by_cases hkn : k < n
    · obtain ⟨b, o, x, rfl, hbl, hx, e1, -, -⟩ := hs.int hkn
      have HX := Lib.hid hx.out
      by_cases hxv : x = v
      · have hd : (x == v) = true := by simpa using hxv
        have hf : Hid (FirstAt xs v k) := Lib.hid (.inl ⟨k, rfl, by rw [HX.out, hxv], hu.out⟩)
        clear hx hxv
        go_wp2_with fail
        all_goals first | (exfalso; omega) | skip
        go_ret
        exact ⟨_, rfl, hf.out, Ext.refl _⟩
      · have hd : (x == v) = false := by simpa using hxv
        have hu2 : Hid (∀ j, j < k + 1 → xs[j]? ≠ some v) := Lib.hid (fun j hj => by
          by_cases e : j = k
          · subst e; rw [HX.out]; simpa using hxv
          · exact hu.out j (by omega))
        clear hx hu
        go_wp2_with fail
        all_goals first | (exfalso; omega) | skip
        go_round
        case rel => exact ⟨k + 1, by omega, by go_num, hu2⟩
        case measure => simp [intOf]; omega
    · have hf : Hid (FirstAt xs v (-1)) := Lib.hid (.inr ⟨rfl, fun h => by
        obtain ⟨j, hj⟩ := List.getElem?_of_mem h
        exact hu.out j (by have := (List.getElem?_eq_some_iff.1 hj).1; rw [HL.out] at this; omega) hj⟩)
      clear hu
      go_wp2_with fail
      all_goals first | (exfalso; omega) | skip
      go_ret
      exact ⟨_, rfl, hf.out, Ext.refl _⟩
theorem kept3 {wo w w' : World} {a b d : Addr} {x y z : Value} (h : Ext w w') (hk : Ext wo w ∧ w.cell? a = some x ∧ w.cell? b = some y ∧ w.cell? d = some z) : Ext wo w' ∧ w'.cell? a = some x ∧ w'.cell? b = some y ∧ w'.cell? d = some z :=
  ⟨hk.1.trans h, (h.cell (p := a) (cell_lt2 hk.2.1)).trans hk.2.1, (h.cell (p := b) (cell_lt2 hk.2.2.1)).trans hk.2.2.1, (h.cell (p := d) (cell_lt2 hk.2.2.2)).trans hk.2.2.2⟩
set_option maxRecDepth 100000 in
set_option maxHeartbeats 16000000 in
theorem refIds_c (hp : Sl rRows F w A n c p) (hok : PartOk nv p) (hnv : nv ≤ 60) :
    Calls Tryz.prog 28 #[.agg #[.slice A n c]] w fun e w' => ∃ B m c' D q d, e = .returned (.tuple #[.slice B m c', .slice D q d]) ∧ Sl (Rd.int .u64) (fun b => w.heap.size ≤ b) w' B m c' (idsI p nv) ∧ Sl rI (fun b => w.heap.size ≤ b) w' D q d (idWidths p) ∧ Ext w w' := by
  have hpl := hp.len
  have hpm := hp.max
  have hple := hp.le
  unfold maxLen at hpm
  have hn6 : n ≤ 6 := by have := hok.few; omega
  have hn1 : 0 < n := by have := hok.some_; omega
  have hp' := hp.lt
  obtain ⟨b0, o0, A1, n1, c1, row0, rfl, hb0, hx0, e0, hr0⟩ := hp'.row (k := 0) hn1
  have hrl := hr0.len
  rw [hok.rows row0 (List.mem_of_getElem? hx0.out)] at hrl
  subst hrl
  have e00 : w.cell? ⟨b0, o0, none⟩ = some (.slice A1 nv c1) := by simpa using e0
  have HP := Lib.hid hp'
  have HOK := Lib.hid hok
  have HPL := Lib.hid hpl
  have HPC := Lib.hid (plcs_len p)
  obtain ⟨cts, hcts⟩ : ∃ cts, (plcs p).map mostOf = cts := ⟨_, rfl⟩
  have HCTS := Lib.hid hcts
  have hcl : cts.length = n := by rw [← hcts, List.length_map, plcs_len, hpl]
  have HCL := Lib.hid hcl
  have HCB : Hid (∀ x ∈ cts, 0 ≤ x ∧ x ≤ 60) := Lib.hid fun x hx => by
    rw [← hcts] at hx
    have := plcs_bd hok x hx
    omega
  clear e0 hr0 hx0 hp hp' hok hpl hcts hcl
  go_enter Tryz.func28, Tryz.ntmps28
  go_wp2_with fail
  obtain ⟨wo, hwo⟩ : ∃ wo : World, wo = w.alloc (.cells #[.slice (some ⟨b0, o0, none⟩) n c] 24) := ⟨_, rfl⟩
  have hE : Ext w wo := by rw [hwo]; exact (by repeat (first | exact Ext.refl _ | assumption | refine Ext.al ?_ | refine Ext.dr ?_ | refine Ext.dn ?_ | (refine Ext.st ?_ ?_; · first | omega | (simp; done) | (simp; omega)) | refine Ext.trans ?_ (by assumption)))
  have q0 : wo.cell? ⟨w.heap.size, 0, none⟩ = some (.slice (some ⟨b0, o0, none⟩) n c) := by rw [hwo]; simp
  rw [← hwo]
  have p0 := (hE.cell (p := ⟨b0, o0, none⟩) hb0).trans e00
  have hws : w.heap.size < wo.heap.size := cell_lt2 q0
  clear hwo
  go_loopw [5, 6] (fun ov lv wr => ∃ k : Nat, k ≤ n ∧ lv = .int .i64 ((k : Int) + 1) ∧ wr.ownsRow wo.heap.size 3 1 ov k ((cts.take k).map (Value.int .i64)) ∧ Ext wo wr) (fun _ lv _ => n + 1 - (intOf lv).toNat)
  case atStart => exact ⟨0, Nat.zero_le _, rfl, World.ownsRow_nil _ _ _ _, Ext.refl _⟩
  case round =>
    obtain ⟨k, hk, rfl, hown, he⟩ := hrel
    have htl : (cts.take k).length = k := by rw [List.length_take, HCL.out]; omega
    by_cases hkn : k < n
    · have hck : ∃ x, cts[k]? = some x := ⟨_, List.getElem?_eq_getElem (by rw [HCL.out]; exact hkn)⟩
      obtain ⟨x, hx⟩ := hck
      have hxb := HCB.out x (List.mem_of_getElem? hx)
      have HCF : Hid (cts.take (k + 1) = cts.take k ++ [x]) := Lib.hid (takeC hx)
      have HX : Hid (((plcs p)[k]?).map mostOf = some x) := Lib.hid (by rw [← List.getElem?_map, HCTS.out]; exact hx)
      clear hx
      by_cases hmid : k + 1 < n
      · obtain ⟨low, row, el, er, il, ir, fl, fr, hnest, ll, lr⟩ := HOK.out.two (l := (k : Int) + 1 + 1) (by omega) (by have := HPL.out; omega)
        rw [show (k : Int) + 1 + 1 - 1 = (k : Int) + 1 by omega] at el
        have h1 : p[k]? = some low := by
          have := lvl_nat p k
          rw [el, List.getElem?_eq_getElem (by rw [HPL.out]; omega)] at this
          rw [List.getElem?_eq_getElem (by rw [HPL.out]; omega), this]; rfl
        have h2 : p[k + 1]? = some row := by
          have := lvl_nat p (k + 1)
          rw [List.getElem?_eq_getElem (by rw [HPL.out]; omega)] at this
          push_cast at this
          rw [er] at this
          rw [List.getElem?_eq_getElem (by rw [HPL.out]; omega), this]; rfl
        obtain ⟨m2, hm2⟩ : ∃ m2 : Nat, mostOf row = (m2 : Int) := ⟨(mostOf row).toNat, by have := mostOf_nonneg row; omega⟩
        have hmb2 : m2 ≤ 60 := by have := ir.most; omega
        obtain ⟨ups, hups⟩ : ∃ ups, upsOf low row = ups := ⟨_, rfl⟩
        have hub : ∀ u ∈ ups, 0 ≤ u ∧ u < m2 := fun u hu => by
          obtain ⟨cc, hcc⟩ := List.getElem?_of_mem hu
          rw [← hups] at hcc
          obtain ⟨j, h3, h4⟩ := upsOf_from il fl (by omega) hnest hcc
          have := ir u (List.mem_of_getElem? h4)
          have h5 := mostOf_ge (List.mem_of_getElem? h4)
          omega
        have hul : ups.length ≤ 60 := by rw [← hups, upsOf_len]; have := il.most; omega
        have HXK : Hid (kmaxI ups m2 = x) := Lib.hid (by
          have := HX.out
          rw [plcs_at h1 h2, hups] at this
          injection this with this
          rw [kmaxI_plc hub, this])
        have HKB : Hid (∀ cc, 0 ≤ kmaxI ups cc ∧ kmaxI ups cc ≤ 60) := Lib.hid fun cc => ⟨kmaxI_nn _ _, kmaxI_le ups (by omega) (fun u => by have := List.count_le_length (a := u) (l := ups); omega) cc⟩
        have HKD : Hid (∀ (cc : Int) (ks : List Int), KidsIs p ((k : Int) + 1 + 1) cc ks → ks.length = ups.count cc) := Lib.hid fun cc ks hks => by
          have := kids_of HOK.out (l := (k : Int) + 1 + 1) (by omega) (by have := HPL.out; omega) cc
          rw [show (k : Int) + 1 + 1 - 1 = (k : Int) + 1 by omega, el, er, hups] at this
          rw [hks.one this, ofI_len]
        have HER := Lib.hid er
        have HM2 := Lib.hid hm2
        have HCC : Hid (∀ cc : Int, ups.count cc ≤ 60) := Lib.hid fun cc => by have := List.count_le_length (a := cc) (l := ups); omega
        have hd1 : ((k : Int) + 1 == (n : Int)) = false := by simp; omega
        have hd0 : decide ((k : Int) + 1 ≤ (n : Int)) = true := decide_eq_true (by omega)
        clear el er il ir fl fr hnest ll lr h1 h2 hm2 hups hub hul
        go_wp2_with fail
        all_goals first | (exfalso; omega) | skip
        go_loopw [7, 8] (fun kv cv wq => ∃ cc : Nat, cc ≤ m2 ∧ cv = .int .i64 cc ∧ kv = .int .i64 (kmaxI ups cc) ∧ Ext wr wq) (fun _ cv _ => m2 - (intOf cv).toNat)
        case atStart => exact ⟨0, Nat.zero_le _, rfl, rfl, Ext.refl _⟩
        case round =>
          obtain ⟨cc, hcc, rfl, rfl, hq⟩ := hrel
          have hEq := he.trans hq
          have qz := (hEq.cell (p := ⟨w.heap.size, 0, none⟩) (cell_lt2 q0)).trans q0
          obtain ⟨hkb0, hkb1⟩ := HKB.out cc
          go_wp2_with fail
          refine (refCountG_c ((k : Int) + 1 + 1) ((HP.out.ext hE).ext hEq) HOK.out).mono ?_
          rintro e w2 ⟨rfl, he2⟩
          rw [HER.out, HM2.out]
          have hq2 := hq.trans he2
          have q2 := (he2.cell (p := ⟨w.heap.size, 0, none⟩) (cell_lt2 qz)).trans qz
          clear qz
          by_cases hcm : cc < m2
          · go_wp2_with fail
            all_goals first | (exfalso; omega) | skip
            refine (refKids_c ((k : Int) + 1 + 1) cc ((HP.out.ext hE).ext (he.trans hq2)) HOK.out).mono ?_
            rintro e w3 ⟨A3, m3, c3, ks, rfl, hs3, hks, he3⟩
            have hkl := HKD.out cc ks hks
            rw [hs3.len] at hkl
            subst hkl
            have hc60 := HCC.out cc
            have hq3 := hq2.trans he3
            have HKS : Hid (kmaxI ups (cc + 1) = max (kmaxI ups cc) (ups.count (cc : Int) : Int)) := Lib.hid rfl
            clear hs3 hks he3 q2 he2 hq hEq
            generalize ups.count (cc : Int) = ct at *
            generalize kmaxI ups cc = kc at *
            go_wp2_with fail
            all_goals first | (exfalso; omega) | skip
            go_roundw
            case rel => exact ⟨cc + 1, by omega, by go_num, by rw [HKS.out], hq3⟩
            case measure => simp [intOf]; omega
          · obtain rfl : cc = m2 := by omega
            have hown2 := own_ext hown hq2
            have hE2 := he.trans hq2
            have hz2 := hE2.size
            rw [HXK.out]
            clear hown hq he hq2 hEq he2 q2
            go_wp2_with (at_builtin; refine wpL_append1 tyInts rfl (.tmp 53) (.tmp 55) rfl rfl hown2 #[.int .i64 x] rfl rfl (by simp [Value.oneCell']) (by omega) hz2 ?_; intro g3 cap w3 hown3 hgr3 hat3 hlt3)
            all_goals first | (exfalso; omega) | skip
            go_roundw
            case rel => exact ⟨k + 1, by omega, by go_num, by rw [HCF.out, List.map_append]; exact hown3, below_own hE2 hown2 hgr3 (Nat.le_refl _) hz2⟩
            case measure => simp [intOf]; omega
      · have hkl : k + 1 = n := by omega
        have hkp : k < p.length := by rw [HPL.out]; exact hkn
        have hrow : p[k]? = some p[k] := List.getElem?_eq_getElem hkp
        have HL1 : Hid (mostOf (lvl p ((k : Int) + 1)) = x) := Lib.hid (by
          have := HX.out
          rw [plcs_last hrow (by rw [HPL.out]; exact hkl)] at this
          injection this with this
          rw [natRow_most] at this
          have h0 := mostOf_nonneg p[k]
          rw [lvl_nat, hrow, Option.getD_some]
          omega)
        have HL2 : Hid (mostOf (lvl p ((k : Int) + 1 + 1)) = 0) := Lib.hid (by
          rw [lvl_out (by have := HPL.out; omega)]; rfl)
        have hd1 : ((k : Int) + 1 == (n : Int)) = true := by simp; omega
        have hd0 : decide ((k : Int) + 1 ≤ (n : Int)) = true := decide_eq_true (by omega)
        have qz := (he.cell (p := ⟨w.heap.size, 0, none⟩) (cell_lt2 q0)).trans q0
        clear hrow hkl
        go_wp2_with fail
        all_goals first | (exfalso; omega) | skip
        refine wp_loop_rounds 1 ?_
        rw [rounds_succ]
        go_wp2_with fail
        refine (refCountG_c ((k : Int) + 1 + 1) ((HP.out.ext hE).ext he) HOK.out).mono ?_
        rintro e w2 ⟨rfl, he2⟩
        rw [HL2.out]
        have q2 := (he2.cell (p := ⟨w.heap.size, 0, none⟩) (cell_lt2 qz)).trans qz
        have hE2 := he.trans he2
        clear qz
        go_wp2_with fail
        all_goals first | (exfalso; omega) | skip
        refine (refCountG_c ((k : Int) + 1) ((HP.out.ext hE).ext hE2) HOK.out).mono ?_
        rintro e w3 ⟨rfl, he3⟩
        rw [HL1.out]
        have hE3 := hE2.trans he3
        have hown3 := own_ext (own_ext hown he2) he3
        have hz3 := hE3.size
        clear hown he he2 he3 hE2 q2
        go_wp2_with (at_builtin; refine wpL_append1 tyInts rfl (.tmp 53) (.tmp 55) rfl rfl hown3 #[.int .i64 x] rfl rfl (by simp [Value.oneCell']) (by omega) hz3 ?_; intro g3 cap w4 hown4 hgr4 hat4 hlt4)
        all_goals first | (exfalso; omega) | skip
        go_roundw
        case rel => exact ⟨k + 1, by omega, by go_num, by rw [HCF.out, List.map_append]; exact hown4, below_own hE3 hown3 hgr4 (Nat.le_refl _) hz3⟩
        case measure => simp [intOf]; omega
    · obtain rfl : k = n := by omega
      have ht : cts.take k = cts := List.take_of_length_le (by rw [HCL.out]; omega)
      rw [ht] at hown
      obtain ⟨A4, c4, rfl, -⟩ := own_shape hown
      have hsl := Sl.of_own_ints (F := fun _ => True) hown (fun g h => trivial) (fun y hy => by have := HCB.out y hy; exact WalkArith.wf_i64 (by omega))
      have hW := refWidths_c hsl
      rw [← HCTS.out, widths_ok HOK.out] at hW
      have HW := Lib.hid hW
      have qz := (he.cell (p := ⟨w.heap.size, 0, none⟩) (cell_lt2 q0)).trans q0
      clear hW hsl hown ht
      go_wp2_with fail
      all_goals first | (exfalso; omega) | skip
      refine HW.out.mono ?_
      rintro e w5 ⟨D, q, d, v, rfl, hv, hD, he5⟩
      obtain ⟨Aw, nw, cw, ew, rfl⟩ := wr_shape hv
      have hD' : Sl rI (fun b => w.heap.size ≤ b) w5 D q d (idWidths p) := hD.mono fun b h _ => by have := he.size; omega
      have hE5 := he.trans he5
      have q5 := (he5.cell (p := ⟨w.heap.size, 0, none⟩) (cell_lt2 qz)).trans qz
      have p5 := (hE5.cell (p := ⟨b0, o0, none⟩) (cell_lt2 p0)).trans p0
      clear hv hD qz he5 HW he
      have d0 : decide (0 < k) = true := by simpa using hn1
      have d1 : decide ((0 : Int) < (k : Int)) = true := decide_eq_true (by omega)
      go_wp2_with fail
      obtain ⟨w7, hw7⟩ : ∃ w7 : World, w7 = w5.alloc (.cells #[.slice Aw nw cw, .int .i64 ew] 36) := ⟨_, rfl⟩
      have hE57 : Ext w5 w7 := by rw [hw7]; exact (by repeat (first | exact Ext.refl _ | assumption | refine Ext.al ?_ | refine Ext.dr ?_ | refine Ext.dn ?_ | (refine Ext.st ?_ ?_; · first | omega | (simp; done) | (simp; omega)) | refine Ext.trans ?_ (by assumption)))
      rw [← hw7]
      clear hw7
      have hE7 := hE5.trans hE57
      have hD7 := hD'.ext hE57
      have q7 := (hE57.cell (p := ⟨w.heap.size, 0, none⟩) (cell_lt2 q5)).trans q5
      have p7 := (hE57.cell (p := ⟨b0, o0, none⟩) (cell_lt2 p5)).trans p5
      have hw7s : w.heap.size ≤ w7.heap.size := by have := hE.size; have := hE7.size; omega
      clear hE57 hD' q5 p5 hE5
      go_loopw [11, 12] (fun ov iv wr => ∃ v : Nat, v ≤ nv ∧ iv = .int .i64 v ∧ wr.ownsRow w7.heap.size 55 1 ov v (((idsI p nv).take v).map (Value.int .u64)) ∧ Ext w7 wr) (fun _ iv _ => nv - (intOf iv).toNat)
      case atStart => exact ⟨0, Nat.zero_le _, rfl, World.ownsRow_nil _ _ _ _, Ext.refl _⟩
      case round =>
        obtain ⟨v, hv, rfl, hown, he⟩ := hrel
        obtain ⟨wy, rfl⟩ : ∃ wy : World, wy = wr := ⟨_, rfl⟩
        have qz := (he.cell (p := ⟨w.heap.size, 0, none⟩) (cell_lt2 q7)).trans q7
        have pz := (he.cell (p := ⟨b0, o0, none⟩) (cell_lt2 p7)).trans p7
        by_cases hvn : v < nv
        · have HIF : Hid ((idsI p nv).take (v + 1) = (idsI p nv).take v ++ [idOf p v]) := Lib.hid (takeC (idsI_at hvn))
          go_wp2_with fail
          all_goals first | (exfalso; omega) | skip
          go_loopw [13, 14] (fun cv lv wq => ∃ j : Nat, j ≤ k ∧ lv = .int .i64 ((j : Int) + 1) ∧ wq.ownsRow wy.heap.size 3 1 cv j (((cellsI p v).take j).map (Value.int .i64)) ∧ Ext wy wq) (fun _ lv _ => k + 1 - (intOf lv).toNat)
          case atStart => exact ⟨0, Nat.zero_le _, rfl, World.ownsRow_nil _ _ _ _, Ext.refl _⟩
          case round =>
            obtain ⟨j, hj, rfl, hownc, hq⟩ := hrel
            obtain ⟨wq, rfl⟩ : ∃ wq : World, wq = wr := ⟨_, rfl⟩
            have hEq := he.trans hq
            have hEo := hE7.trans hEq
            have qy := (hq.cell (p := ⟨w.heap.size, 0, none⟩) (cell_lt2 qz)).trans qz
            have HPq := Lib.hid ((HP.out.ext hE).ext hEo)
            by_cases hjk : j < k
            · obtain ⟨b1, o1, Ar, nr, cr, row, hA, hb1, hx, e1, hr⟩ := HPq.out.row hjk
              injection hA with hA
              injection hA with ea eb
              subst ea eb
              have hrl := hr.len
              rw [HOK.out.rows row (List.mem_of_getElem? hx.out)] at hrl
              subst hrl
              obtain ⟨b2, o2, x, rfl, hb2, hxv, e2, x0, x1⟩ := hr.int hvn
              have hinr := HOK.out.inr row (List.mem_of_getElem? hx.out) x (List.mem_of_getElem? hxv.out)
              obtain ⟨xx, rfl⟩ := Int.eq_ofNat_of_zero_le hinr.1
              have hjp : j < (plcs p).length := by rw [HPC.out, HPL.out]; exact hjk
              have hpl : (plcs p)[j]? = some (plcs p)[j] := List.getElem?_eq_getElem hjp
              obtain ⟨cv, hc1, hc2⟩ := cellsI_at hvn HOK.out hx.out hpl hxv.out
              rw [Int.toNat_natCast] at hc1
              have HCF : Hid ((cellsI p v).take (j + 1) = (cellsI p v).take j ++ [cv]) := Lib.hid (takeC hc2)
              have hrm := hr.max
              have hrle := hr.le
              unfold maxLen at hrm
              have a1 : (j : Int) + 1 - 1 = (j : Int) := by omega
              have d3 : decide ((j : Int) + 1 ≤ (k : Int)) = true := decide_eq_true (by omega)
              by_cases hmid : j + 1 < k
              · obtain ⟨b5, o5, Ar', nr', cr', row', hA', hb5, hx', e5, hr'⟩ := HPq.out.row hmid
                injection hA' with hA'
                injection hA' with ea eb
                subst ea eb
                have hrl' := hr'.len
                rw [HOK.out.rows row' (List.mem_of_getElem? hx'.out)] at hrl'
                subst hrl'
                obtain ⟨b6, o6, y, rfl, hb6, hyv, e6, y0, y1⟩ := hr'.int hvn
                have hnest := HOK.out.nest j row row' hx.out hx'.out
                have hll : row.length = row'.length := by rw [HOK.out.rows row (List.mem_of_getElem? hx.out), HOK.out.rows row' (List.mem_of_getElem? hx'.out)]
                have hup := upsOf_at (HOK.out.inr row (List.mem_of_getElem? hx.out)) hll hnest hxv.out hyv.out
                rw [Int.toNat_natCast] at hup
                have hcv : cv = (((upsOf row row').take xx).count y : Int) := by
                  rw [plcs_at hx.out hx'.out] at hpl
                  injection hpl with hpl
                  rw [← hpl, plc_at hup] at hc1
                  injection hc1 with hc1
                  exact hc1.symm
                have HFA : Hid (∀ ks, KidsIs p ((j : Int) + 1 + 1) y ks → FirstAt ks (xx : Int) cv) := Lib.hid fun ks hks => by
                  have h3 := kids_of HOK.out (l := (j : Int) + 1 + 1) (by omega) (by have := HPL.out; omega) y
                  have l1 : lvl p ((j : Int) + 1 + 1 - 1) = row := by
                    rw [show (j : Int) + 1 + 1 - 1 = (j : Int) + 1 by omega, lvl_nat, hx.out]; rfl
                  have l2 : lvl p ((j : Int) + 1 + 1) = row' := by
                    have := lvl_nat p (j + 1)
                    rw [hx'.out] at this
                    push_cast at this
                    exact this
                  rw [l1, l2] at h3
                  rw [hks.one h3, hcv]
                  exact firstAt_of hup
                have d4 : decide ((j : Int) + 1 < (k : Int)) = true := decide_eq_true (by omega)
                have d5 : (j : Int) + 1 < (k : Int) := by omega
                have d6 : (0 : Int) ≤ (j : Int) + 1 := by omega
                have d7 : (v : Int) < (nv : Int) := by omega
                have a2 : ((j + 1 : Nat) : Int) = (j : Int) + 1 := by push_cast; rfl
                have a3 : ((j : Int) + 1).toNat = j + 1 := by omega
                have a4 : IntKind.i64.wrap ((j : Int) + 1) = (j : Int) + 1 := IntWalk.i64_in _ (by omega)
                have a5 : IntKind.i64.wrap ((j : Int) + 1 + 1) = (j : Int) + 1 + 1 := IntWalk.i64_in _ (by omega)
                have hrm' := hr'.max
                have hrle' := hr'.le
                unfold maxLen at hrm'
                clear hc1 hc2 hpl hr hx hxv hr' hx' hyv hnest hll hup hcv hb1 hb2 hb5 hb6 hinr
                go_upto_region 25 with fail
                go_cut [15] (fun tv wc => tv = .int .i64 cv ∧ Ext wq wc)
                case first =>
                  refine wp_region_held_drew (S := (fun w' => Ext wq w' ∧ w'.cell? ⟨w.heap.size, 0, none⟩ = some (.slice (some ⟨b0, o0, none⟩) k c) ∧ w'.cell? ⟨b0, o0 + (j + 1), none⟩ = some (.slice (some ⟨b6, o6, none⟩) nv cr') ∧ w'.cell? ⟨b6, o6 + v, none⟩ = some (.int .i64 y))) (by kernel_rfl) ⟨Ext.dr (Ext.refl _), qy, e5, e6⟩ (fun hHeld => ?_)
                  refine wpAnyH_take (i := 0) (v := ?_) rfl (by kernel_rfl) (by kernel_rfl) (by kernel_rfl) (fun _ _ _ h => h) (Or.inl ⟨by rfl, ?_⟩) (by assumption) ?_; rotate_left; (intro W hSw; (try dsimp only at hSw); go_simp; with_reducible rfl); (try simp only [Act.put, List.setIfInBounds_toArray, List.set_cons_zero, List.set_cons_succ, List.getElem_toArray, List.getElem_cons_succ, List.getElem_cons_zero])
                  refine wpAnyH_take (i := 1) (v := ?_) rfl (by kernel_rfl) (by kernel_rfl) (by kernel_rfl) (fun _ _ _ h => h) (Or.inl ⟨by rfl, ?_⟩) (by assumption) ?_; rotate_left; (intro W hSw; (try dsimp only at hSw); go_simp; with_reducible rfl); (try simp only [Act.put, List.setIfInBounds_toArray, List.set_cons_zero, List.set_cons_succ, List.getElem_toArray, List.getElem_cons_succ, List.getElem_cons_zero])
                  refine wpAnyH_take (i := 2) (v := ?_) rfl (by kernel_rfl) (by kernel_rfl) (by kernel_rfl) (fun _ _ _ h => h) (Or.inl ⟨by rfl, ?_⟩) (by assumption) ?_; rotate_left; (intro W hSw; (try dsimp only at hSw); go_simp; with_reducible rfl); (try simp only [Act.put, List.setIfInBounds_toArray, List.set_cons_zero, List.set_cons_succ, List.getElem_toArray, List.getElem_cons_succ, List.getElem_cons_zero])
                  refine wpAnyH_take (i := 3) (v := ?_) rfl (by kernel_rfl) (by kernel_rfl) (by kernel_rfl) (fun _ _ _ h => h) (Or.inl ⟨by rfl, ?_⟩) (by assumption) ?_; rotate_left; (intro W hSw; (try dsimp only at hSw); go_simp; with_reducible rfl); (try simp only [Act.put, List.setIfInBounds_toArray, List.set_cons_zero, List.set_cons_succ, List.getElem_toArray, List.getElem_cons_succ, List.getElem_cons_zero])
                  refine wpAnyH_take (i := 4) (v := ?_) rfl (by kernel_rfl) (by kernel_rfl) (by kernel_rfl) (fun _ _ _ h => h) (Or.inl ⟨by rfl, ?_⟩) (by assumption) ?_; rotate_left; (intro W hSw; (try dsimp only at hSw); go_simp; with_reducible rfl); (try simp only [Act.put, List.setIfInBounds_toArray, List.set_cons_zero, List.set_cons_succ, List.getElem_toArray, List.getElem_cons_succ, List.getElem_cons_zero])
                  refine wpAnyH_take (i := 5) (v := ?_) rfl (by kernel_rfl) (by kernel_rfl) (by kernel_rfl) (fun _ _ _ h => h) (Or.inl ⟨by rfl, ?_⟩) (by assumption) ?_; rotate_left; (intro W hSw; (try dsimp only at hSw); go_simp; with_reducible rfl); (try simp only [Act.put, List.setIfInBounds_toArray, List.set_cons_zero, List.set_cons_succ, List.getElem_toArray, List.getElem_cons_succ, List.getElem_cons_zero])
                  refine wpAnyH_take (i := 6) (v := ?_) rfl (by kernel_rfl) (by kernel_rfl) (by kernel_rfl) (fun _ _ _ h => h) (Or.inl ⟨by rfl, ?_⟩) (by assumption) ?_; rotate_left; (intro W hSw; (try dsimp only at hSw); go_simp; with_reducible rfl); (try simp only [Act.put, List.setIfInBounds_toArray, List.set_cons_zero, List.set_cons_succ, List.getElem_toArray, List.getElem_cons_succ, List.getElem_cons_zero])
                  refine wpAnyH_take (i := 7) (v := ?_) rfl (by kernel_rfl) (by kernel_rfl) (by kernel_rfl) (fun _ _ _ h => h) (Or.inl ⟨by rfl, ?_⟩) (by assumption) ?_; rotate_left; (intro W hSw; (try dsimp only at hSw); go_simp; with_reducible rfl); (try simp only [Act.put, List.setIfInBounds_toArray, List.set_cons_zero, List.set_cons_succ, List.getElem_toArray, List.getElem_cons_succ, List.getElem_cons_zero])
                  refine wpAnyH_take (i := 8) (v := ?_) rfl (by kernel_rfl) (by kernel_rfl) (by kernel_rfl) (fun _ _ _ h => h) (Or.inl ⟨by rfl, ?_⟩) (by assumption) ?_; rotate_left; (intro W hSw; (try dsimp only at hSw); go_simp; with_reducible rfl); (try simp only [Act.put, List.setIfInBounds_toArray, List.set_cons_zero, List.set_cons_succ, List.getElem_toArray, List.getElem_cons_succ, List.getElem_cons_zero])
                  refine wpAnyH_take (i := 9) (v := ?_) rfl (by kernel_rfl) (by kernel_rfl) (by kernel_rfl) (fun _ _ _ h => h) (Or.inl ⟨by rfl, ?_⟩) (by assumption) ?_; rotate_left; (intro W hSw; (try dsimp only at hSw); go_simp; with_reducible rfl); (try simp only [Act.put, List.setIfInBounds_toArray, List.set_cons_zero, List.set_cons_succ, List.getElem_toArray, List.getElem_cons_succ, List.getElem_cons_zero])
                  refine wpAnyH_take (i := 10) (v := ?_) rfl (by kernel_rfl) (by kernel_rfl) (by kernel_rfl) (fun _ _ _ h => h) (Or.inl ⟨by rfl, ?_⟩) (by assumption) ?_; rotate_left; (intro W hSw; (try dsimp only at hSw); go_simp; with_reducible rfl); (try simp only [Act.put, List.setIfInBounds_toArray, List.set_cons_zero, List.set_cons_succ, List.getElem_toArray, List.getElem_cons_succ, List.getElem_cons_zero])
                  refine wpAnyH_take (i := 12) (v := ?_) rfl (by kernel_rfl) (by kernel_rfl) (by kernel_rfl) (fun _ _ _ h => h) (Or.inl ⟨by rfl, ?_⟩) (by assumption) ?_; rotate_left; (intro W hSw; (try dsimp only at hSw); go_simp; with_reducible rfl); (try simp only [Act.put, List.setIfInBounds_toArray, List.set_cons_zero, List.set_cons_succ, List.getElem_toArray, List.getElem_cons_succ, List.getElem_cons_zero])
                  refine wpAnyH_ready (rs := [11]) (by kernel_rfl) (by simp) ?_; refine AllReadyH.cons rfl (fun K hK => ?_) AllReadyH.nil; go_simp; go_at_call 23; refine (refKids_c ((j : Int) + 1 + 1) y (HPq.out.ext (And.left (by assumption : Ext wq _ ∧ _))) HOK.out).mono ?_
                  rintro e w2 ⟨A3, m3, c5, ks, rfl, hks_sl, hks, he2⟩
                  refine hK.out _ _ ?_ (fun hHeld => ?_)
                  · exact kept3 he2 (by assumption)
                  clear hK K
                  (try simp only [Act.put, List.setIfInBounds_toArray, List.set_cons_zero, List.set_cons_succ, List.getElem_toArray, List.getElem_cons_succ, List.getElem_cons_zero])
                  refine wpAnyH_ready (rs := [13]) (by kernel_rfl) (by simp) ?_; refine AllReadyH.cons rfl (fun K hK => ?_) AllReadyH.nil; go_simp; go_at_call 53; refine (place_c (xx : Int) hks_sl).mono ?_
                  rintro e w3 ⟨i, rfl, hi, he3⟩
                  obtain rfl := firstAt_one hi (HFA.out ks hks)
                  refine hK.out _ _ ?_ (fun hHeld => ?_)
                  · exact kept3 he3 (by assumption)
                  clear hK K
                  (try simp only [Act.put, List.setIfInBounds_toArray, List.set_cons_zero, List.set_cons_succ, List.getElem_toArray, List.getElem_cons_succ, List.getElem_cons_zero])
                  refine wpAnyH_take (i := 14) (v := ?_) rfl (by kernel_rfl) (by kernel_rfl) (by kernel_rfl) (fun _ _ _ h => h) (Or.inl ⟨by rfl, ?_⟩) (by assumption) ?_; rotate_left; (intro W hSw; (try dsimp only at hSw); go_simp; with_reducible rfl); (try simp only [Act.put, List.setIfInBounds_toArray, List.set_cons_zero, List.set_cons_succ, List.getElem_toArray, List.getElem_cons_succ, List.getElem_cons_zero])
                  refine wpAnyH_done (by kernel_rfl) ?_ _
                  go_wp2_with fail
                  go_meet
                  exact ⟨rfl, And.left (by assumption : Ext wq _ ∧ _)⟩
                case rest =>
                  obtain ⟨rfl, hxc⟩ := hcut
                  have hownq := own_ext hownc hxc
                  have hE2 := hq.trans hxc
                  have hz2 := hE2.size
                  clear hownc hq hEq hEo qy e1 e2 e5 e6 hxc
                  go_wp2_with (at_builtin; refine wpL_append1 tyInts rfl (.tmp 106) (.tmp 108) rfl rfl hownq #[.int .i64 cv] rfl rfl (by simp [Value.oneCell']) (by omega) hz2 ?_; intro g3 cap w4 hown4 hgr4 hat4 hlt4)
                  all_goals first | (exfalso; omega) | skip
                  go_roundw
                  case rel => exact ⟨j + 1, by omega, by go_num, by rw [HCF.out, List.map_append]; exact hown4, below_own hE2 hownq hgr4 (Nat.le_refl _) hz2⟩
                  case measure => simp [intOf]; omega
              · have hcv : cv = (xx : Int) := by
                  rw [plcs_last hx.out (by rw [HPL.out]; omega)] at hpl
                  injection hpl with hpl
                  have hm := mostOf_ge (List.mem_of_getElem? hxv.out)
                  rw [← hpl, natRow_at (by omega)] at hc1
                  injection hc1 with hc1
                  exact hc1.symm
                subst hcv
                have d4 : decide ((j : Int) + 1 < (k : Int)) = false := decide_eq_false (by omega)
                have hz2 := hq.size
                clear hc1 hc2 hpl hr hx hxv hb1 hb2 hinr
                go_wp2_with (at_builtin; refine wpL_append1 tyInts rfl (.tmp 106) (.tmp 108) rfl rfl hownc #[.int .i64 xx] rfl rfl (by simp [Value.oneCell']) (by omega) hz2 ?_; intro g3 cap w4 hown4 hgr4 hat4 hlt4)
                all_goals first | (exfalso; omega) | skip
                go_roundw
                case rel => exact ⟨j + 1, by omega, by go_num, by rw [HCF.out, List.map_append]; exact hown4, below_own hq hownc hgr4 (Nat.le_refl _) hz2⟩
                case measure => simp [intOf]; omega
            · obtain rfl : j = k := by omega
              have d3 : decide ((j : Int) + 1 ≤ (j : Int)) = false := decide_eq_false (by omega)
              have ht : (cellsI p v).take j = cellsI p v := List.take_of_length_le (by rw [cellsI_len, HPL.out]; omega)
              rw [ht] at hownc
              obtain ⟨A6, c6, rfl, -⟩ := own_shape hownc
              have hcsl := Sl.of_own_ints (F := fun _ => True) hownc (fun g h => trivial) (fun y hy => by have := cellsI_bd HOK.out hnv hvn y hy; exact WalkArith.wf_i64 (by omega))
              have hPk := refPack_c hcsl (hD7.ext hEq)
              rw [pack_ok HOK.out hnv hvn] at hPk
              have HPk := Lib.hid hPk
              clear hcsl hPk ht hownc
              go_wp2_with fail
              all_goals first | (exfalso; omega) | skip
              refine HPk.out.mono ?_
              rintro e w9 ⟨vv, rfl, hv9, he9⟩
              obtain ⟨Ax, nx, cx, ex, rfl⟩ := wr_shape hv9
              have HOKN : okN none (packI (cellsI p v) (idWidths p)) = idOf p v := rfl
              rw [HOKN]
              obtain ⟨idv, hidv⟩ : ∃ idv, idOf p v = idv := ⟨_, rfl⟩
              rw [hidv] at HIF ⊢
              have hE9 : Ext w7 w9 := hEq.trans he9
              have hown9 := own_ext (own_ext hown hq) he9
              clear HPk hv9 HOKN hidv hq hEq hEo qy he9 hown he qz pz
              go_upto_region 28 with fail
              obtain ⟨w10, hw10⟩ : ∃ w10 : World, w10 = w9.alloc (.cells #[.slice Ax nx cx, .int .i64 ex] 36) := ⟨_, rfl⟩
              have hx10 : Ext w9 w10 := by rw [hw10]; exact (by repeat (first | exact Ext.refl _ | assumption | refine Ext.al ?_ | refine Ext.dr ?_ | refine Ext.dn ?_ | (refine Ext.st ?_ ?_; · first | omega | (simp; done) | (simp; omega)) | refine Ext.trans ?_ (by assumption)))
              rw [← hw10]
              clear hw10
              have hown10 := own_ext hown9 hx10
              have hE10 : Ext w7 w10 := hE9.trans hx10
              have hz10 := hE10.size
              clear hx10 hE9 hown9
              go_wp2_with (at_builtin; refine wpL_append1 tyU64s rfl (.tmp 116) (.tmp 118) rfl rfl hown10 #[.int .u64 idv] rfl rfl (by simp [Value.oneCell']) (by omega) hz10 ?_; intro g3 cap w11 hown11 hgr11 hat11 hlt11)
              all_goals first | (exfalso; omega) | skip
              go_roundw
              case rel => exact ⟨v + 1, by omega, by go_num, by first | (rw [HIF.out, List.map_append]; exact hown11) | (rw [← List.map_take, HIF.out, List.map_append]; exact hown11), below_own hE10 hown10 hgr11 (Nat.le_refl _) hz10⟩
              case measure => simp [intOf]; omega
        · obtain rfl : v = nv := by omega
          have ht : (idsI p v).take v = idsI p v := List.take_of_length_le (by rw [idsI_len]; omega)
          rw [ht] at hown
          obtain ⟨A6, c6, rfl, -⟩ := own_shape hown
          have hsl := Lib.hid (Sl.of_own_ints (F := fun b => w.heap.size ≤ b) hown (fun g h => by omega) (fun y hy => by
            obtain ⟨a, ha, rfl⟩ := List.mem_map.1 hy
            have := idOf_bd HOK.out hnv (List.mem_range.1 ha)
            simp [Lit.wf, IntKind.min, IntKind.max, IntKind.signed, IntKind.bits]
            omega))
          have hD9 := Lib.hid (hD7.ext he)
          have hE9 := hE.trans (hE7.trans he)
          clear hown ht
          go_wp2_with fail
          all_goals first | (exfalso; omega) | skip
          go_ret2
          exact ⟨_, _, _, _, _, _, rfl, hsl.out, hD9.out, hE9⟩
end
end Go.Proofs.YtlaobpnbnfoadaaGreatDoor
