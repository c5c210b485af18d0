/-
  PartBent, stepped through: it returns true. Conditions: the readings; errors.errorType holds its type.
-/
import Derived.Test.YtlaobpnbnfoadaaGreatDoorQ25
import Derived.Test.YtlaobpnbnfoadaaGreatDoorQ31
import Derived.Test.YtlaobpnbnfoadaaGreatDoorQ30
import Derived.BigRegion
namespace Go.Proofs.YtlaobpnbnfoadaaGreatDoor
set_option linter.unusedVariables false
set_option linter.unusedSimpArgs false
set_option linter.unusedSectionVars false
set_option linter.unnecessarySimpa false
open Go Go.RowKit

theorem field_cells (A : Option Addr) (n c : Nat) (W : World) : (Instr.field 32 (.agg #[.slice A n c]) 0).run Tryz.prog W = .ok (.slice A n c) W := by kernel_rfl
/-- The bounds of the first levels, as cells. -/
def cellsB (p : List (List Int)) (j : Nat) : List Value := ((p.take j).map bestC).map (Value.int .i64)
theorem cellsB_succ {p : List (List Int)} {j : Nat} {r : List Int} (h : p[j]? = some r) : cellsB p (j + 1) = cellsB p j ++ [.int .i64 (bestC r)] := by
  rw [cellsB, List.take_add_one, h]
  simp [cellsB]
theorem cellsB_all {p : List (List Int)} {j : Nat} (h : p.length = j) : cellsB p j = (p.map bestC).map (Value.int .i64) := by
  rw [cellsB, List.take_of_length_le (by omega)]
theorem own_some {w : World} {base size n : Nat} {e : TypeId} {v : Value} {xs : List Value} (h : w.ownsRow base e size v n xs) (hn : 0 < n) : ∃ g cap, v = .slice (some ⟨g, 0, none⟩) n cap ∧ base ≤ g ∧ g < w.heap.size := by
  rcases h.2 with ⟨-, h0⟩ | ⟨g, cap, cur, hv, hb, hg, r⟩
  · omega
  · exact ⟨g, cap, hv, hb, (Array.getElem?_eq_some_iff.1 hg).1⟩
section
variable {F G : Nat → Prop} {A B : Option Addr} {n c m d : Nat} {p : List (List Int)} {bs : List Int} {w : World}
set_option maxRecDepth 100000 in
set_option maxHeartbeats 16000000 in
theorem partbent_c (nv : Int) (vx lv : Nat) (to_ : Int) (hvx : vx ≤ 65535) (hlv : lv ≤ 255) (hto : (Lit.int .i64 to_).wf = true) (hp : Sl rRows F w A n c p) (hg : HandleIs w) :
    Calls Tryz.prog 6 #[.int .i64 nv, .agg #[.slice A n c], .int .u16 vx, .int .u8 lv, .int .i64 to_] w fun e w' => e = .returned (.bool true) ∧ Ext w w' := by
  have HP := Lib.hid hp.lt
  have HG := Lib.hid hg
  have HTO := Lib.hid hto
  clear hp hg hto
  go_enter Tryz.func6, Tryz.ntmps6
  go_wp2_with fail
  refine (known13_c (HG.out.ext (by repeat (first | exact Ext.refl _ | assumption | refine Ext.al ?_ | refine Ext.dr ?_ | refine Ext.dn ?_ | (refine Ext.st ?_ ?_; · first | omega | (simp; done) | (simp; omega)) | refine Ext.trans ?_ (by assumption))))).mono ?_
  rintro e w1 ⟨rfl, he1⟩
  have hE1 : Ext w w1 := Ext.trans (by repeat (first | exact Ext.refl _ | assumption | refine Ext.al ?_ | refine Ext.dr ?_ | refine Ext.dn ?_ | (refine Ext.st ?_ ?_; · first | omega | (simp; done) | (simp; omega)) | refine Ext.trans ?_ (by assumption))) he1
  have q1 : w1.cell? ⟨w.heap.size, 0, none⟩ = some (.slice A n c) := (he1.cell (p := ⟨w.heap.size, 0, none⟩) (by simp)).trans (by simp)
  clear he1
  go_wp2_with fail
  all_goals first | (exfalso; omega) | skip
  refine (partMayG_c nv (HP.out.ext hE1)).mono ?_
  rintro e w2 ⟨bb, rfl, hmay, he2⟩
  have hE2 := hE1.trans he2
  have q2 := (he2.cell (p := ⟨w.heap.size, 0, none⟩) (cell_lt2 q1)).trans q1
  have HM := Lib.hid hmay
  clear he2 q1 hE1 hmay
  cases bb with
  | false =>
    go_wp2_with fail
    all_goals first | (exfalso; omega) | skip
    go_ret
    exact ⟨rfl, hE2⟩
  | true =>
    obtain ⟨h0, h60, hok⟩ := HM.out rfl
    obtain ⟨v, rfl⟩ := Int.eq_ofNat_of_zero_le h0
    rw [Int.toNat_natCast] at hok
    have hnv60 : v ≤ 60 := by omega
    have HOK := Lib.hid hok
    have HROWS := Lib.hid hok.rows
    have hn6 : n ≤ 6 := by have := hok.few; have := HP.out.len; omega
    have hn1 : 0 < n := by have := hok.some_; have := HP.out.len; omega
    have HN := Lib.hid HP.out.len
    have HLV : Hid (∀ l : Int, (lvl p l).length ≤ 60 ∧ ∀ x ∈ lvl p l, -1000000 ≤ x ∧ x ≤ 1000000) := Lib.hid fun l => by
      refine ⟨?_, fun x hx => ?_⟩
      · by_cases h : 1 ≤ l ∧ l ≤ p.length
        · obtain ⟨k, -, r, hr, e⟩ := lvl_in h.1 h.2
          rw [e, hok.rows r (List.mem_of_getElem? hr)]; omega
        · rw [lvl_out h]; simp
      · have := lvl_in_bd hok l x hx; omega
    clear hok h0 h60 HM
    by_cases hv0 : v = 0
    · have d0 : ((v : Int) == 0) = true := by simp [hv0]
      clear hv0
      go_wp2_with fail
      all_goals first | (exfalso; omega) | skip
      go_ret
      exact ⟨rfl, hE2⟩
    have d0 : ((v : Int) == 0) = false := by simp; omega
    have hv1 : 0 < v := by omega
    clear hv0
    go_wp2_with fail
    all_goals first | (exfalso; omega) | skip
    refine (law13To_c (HP.out.ext hE2) (by omega) (fun x hx => by rw [HROWS.out x hx]; omega)).mono ?_
    rintro e w3' ⟨A3, n3, c3, rfl, hq, he3⟩
    have HQ' := Lib.hid hq
    have q3' := (he3.cell (p := ⟨w.heap.size, 0, none⟩) (cell_lt2 q2)).trans q2
    have hE3' := hE2.trans he3
    clear hq he3 q2 hE2
    go_upto_region 6 with fail
    obtain ⟨w3, hw3⟩ : ∃ w3 : World, w3 = w3'.alloc (.cells #[.slice A3 n3 c3] 32) := ⟨_, rfl⟩
    have hx3 : Ext w3' w3 := by rw [hw3]; exact (by repeat (first | exact Ext.refl _ | assumption | refine Ext.al ?_ | refine Ext.dr ?_ | refine Ext.dn ?_ | (refine Ext.st ?_ ?_; · first | omega | (simp; done) | (simp; omega)) | refine Ext.trans ?_ (by assumption)))
    have qq : w3.cell? ⟨w3'.heap.size, 0, none⟩ = some (.slice A3 n3 c3) := by rw [hw3]; simp
    rw [← hw3]
    obtain ⟨gq, hgq⟩ : ∃ gq, w3'.heap.size = gq := ⟨_, rfl⟩
    rw [hgq] at qq ⊢
    have q3 := (hx3.cell (p := ⟨w.heap.size, 0, none⟩) (cell_lt2 q3')).trans q3'
    have hE3 := hE3'.trans hx3
    have HQ := Lib.hid (HQ'.out.ext hx3)
    have hn3 : n3 ≤ 1000 := by rw [← HQ'.out.len, HP.out.len]; omega
    clear hw3 hgq hx3 q3' hE3' HQ'
    have hmod : (lv : Int) % (n : Int) = ((lv % n : Nat) : Int) := by simp
    have hkn : lv % n < n := Nat.mod_lt _ (by omega)
    generalize lv % n = k at hmod hkn
    go_wp2_with fail
    all_goals first | (exfalso; omega) | skip
    (try simp only [hmod])
    clear hmod
    go_loopw [13, 14] (fun bv lvv wr => ∃ j : Nat, j ≤ n ∧ lvv = .int .i64 ((j : Int) + 1) ∧ wr.ownsRow w3.heap.size 3 1 bv j (cellsB p j) ∧ Ext w3 wr) (fun _ lvv _ => n + 1 - (intOf lvv).toNat)
    case atStart => exact ⟨0, Nat.zero_le _, rfl, World.ownsRow_nil _ _ _ _, Ext.refl _⟩
    case round =>
      obtain ⟨j, hj, rfl, hown, he⟩ := hrel
      obtain ⟨wy, rfl⟩ : ∃ wy : World, wy = wr := ⟨_, rfl⟩
      have qy := (he.cell (p := ⟨w.heap.size, 0, none⟩) (cell_lt2 q3)).trans q3
      have qqy := (he.cell (p := ⟨gq, 0, none⟩) (cell_lt2 qq)).trans qq
      by_cases hjn : j < n
      · have hjp : j < p.length := by rw [HN.out]; exact hjn
        obtain ⟨r, hr⟩ : ∃ r, p[j]? = some r := ⟨p[j], List.getElem?_eq_getElem hjp⟩
        have HR := Lib.hid hr
        have HLR : Hid (lvl p ((j : Int) + 1) = r) := Lib.hid (by rw [lvl_nat, hr]; rfl)
        have hrlen := HROWS.out r (List.mem_of_getElem? hr)
        have hmx := fun m => maxC_le r m
        obtain ⟨M, hM⟩ : ∃ M : Nat, mostOf r = M := Int.eq_ofNat_of_zero_le (mostOf_nonneg _)
        have hM60 : M ≤ 60 := by
          have := mostOf_le (row := r) (n := 60) (by omega) fun x hx => by have := HOK.out.inr r (List.mem_of_getElem? hr) x hx; omega
          omega
        have HMo := Lib.hid hM
        have HMX : Hid (∀ m, maxC r m ≤ 60) := Lib.hid fun m => by have := hmx m; omega
        have HTK : Hid (cellsB p (j + 1) = cellsB p j ++ [.int .i64 (bestC r)]) := Lib.hid (cellsB_succ hr)
        have HBC : Hid (bestC r = ((maxC r M : Nat) : Int)) := Lib.hid (by rw [bestC, hM, Int.toNat_natCast])
        have HOW := Lib.hid hown
        have dj : decide ((j : Int) + 1 ≤ (n : Int)) = true := decide_eq_true (by omega)
        clear hr hM hmx hrlen hjp hown
        go_wp2_with fail
        all_goals first | (exfalso; omega) | skip
        go_loopw [15, 16] (fun mv cv wr => ∃ cc x0 : Nat, cc ≤ M ∧ x0 ≤ 60 ∧ mv = .int .i64 x0 ∧ cv = .int .i64 cc ∧ Hid (maxC r cc = x0) ∧ Ext wy wr) (fun _ cv _ => M - (intOf cv).toNat)
        case atStart => exact ⟨0, 0, Nat.zero_le _, Nat.zero_le _, rfl, rfl, Lib.hid rfl, Ext.refl _⟩
        case round =>
          obtain ⟨cc, x0, hc, hx0, rfl, rfl, hmc, hez⟩ := hrel
          obtain ⟨wx, rfl⟩ : ∃ wx : World, wx = wr := ⟨_, rfl⟩
          have qx := (hez.cell (p := ⟨w.heap.size, 0, none⟩) (cell_lt2 qy)).trans qy
          have hEx := hE3.trans (he.trans hez)
          go_wp2_with fail
          all_goals first | (exfalso; omega) | skip
          refine (refCountG_c ((j : Int) + 1) (HP.out.ext hEx) HOK.out).mono ?_
          rintro e w4 ⟨rfl, he4⟩
          rw [HLR.out, HMo.out]
          have hE4 := hez.trans he4
          have q4 := (he4.cell (p := ⟨w.heap.size, 0, none⟩) (cell_lt2 qx)).trans qx
          have hE4w := hEx.trans he4
          clear he4 qx hez hEx
          by_cases hcM : cc < M
          · go_wp2_with fail
            all_goals first | (exfalso; omega) | skip
            refine (Members_c ((j : Int) + 1) (cc : Int) (HP.out.ext hE4w) (by have := (HLV.out ((j : Int) + 1)).1; omega)).mono ?_
            rintro e w5 ⟨A5, m5, c5, rfl, hs5, he5⟩
            have hE5 := hE4.trans he5
            have hl5 := hs5.len
            rw [HLR.out, ofI_len] at hl5
            have hm5 : m5 ≤ 60 := by
              have h1 : r.count (cc : Int) ≤ r.length := List.count_le_length
              rw [HROWS.out r (List.mem_of_getElem? HR.out)] at h1
              omega
            have HNX : Hid (maxC r (cc + 1) = max x0 m5) := Lib.hid (by rw [maxC, hmc.out, hl5])
            clear hs5 he5 hl5
            go_wp2_with fail
            all_goals first | (exfalso; omega) | skip
            go_roundw
            case rel => exact ⟨cc + 1, max x0 m5, by omega, by omega, by first | go_num | (congr 1; omega), by go_num, HNX, hE5⟩
            case measure => simp [intOf]; omega
          · obtain rfl : cc = M := by omega
            have hown4 := own_ext HOW.out hE4
            have hbel4 := he.trans hE4
            have hz4 := hbel4.size
            have HX0 : Hid (bestC r = (x0 : Int)) := Lib.hid (by rw [HBC.out, hmc.out])
            go_wp2_with (at_builtin; refine wpL_append1 tyInts rfl (.tmp 57) (.tmp 59) rfl rfl hown4 #[.int .i64 x0] rfl rfl (by simp [Value.oneCell']) (by omega) hz4 ?_; intro g8 cap w8 hown8 hgr8 hat8 hlt8)
            all_goals first | (exfalso; omega) | skip
            go_roundw
            case rel => exact ⟨j + 1, by omega, by go_num, by rw [HTK.out, HX0.out]; simpa using hown8, below_own hbel4 hown4 hgr8 (Nat.le_refl _) hz4⟩
            case measure => simp [intOf]; omega
      · obtain rfl : j = n := by omega
        rw [cellsB_all HN.out] at hown
        obtain ⟨g, cap, rfl, hg0, hg1⟩ := own_some hown hn1
        have HWF : Hid (∀ x ∈ p, 0 ≤ bestC x ∧ bestC x ≤ 60) := Lib.hid fun x hx => by
          have h1 := maxC_le x (mostOf x).toNat
          rw [HROWS.out x hx] at h1
          unfold bestC
          omega
        have HSB := Lib.hid (Sl.of_own_ints (F := fun _ => True) hown (fun _ _ => trivial) fun y hy => by
          obtain ⟨x, hx, rfl⟩ := List.mem_map.1 hy
          have := HWF.out x hx
          exact WalkArith.wf_i64 (by omega))
        obtain ⟨rk, hrk⟩ : ∃ rk, p[k]? = some rk := ⟨p[k]'(by rw [HN.out]; exact hkn), List.getElem?_eq_getElem _⟩
        have HRK := Lib.hid hrk
        have HOW := Lib.hid hown
        clear hown hrk
        go_wp2_with fail
        all_goals first | (exfalso; omega) | skip
        refine (checkIs_c (v : Int) (HQ.out.ext he) HSB.out (bent_none HOK.out)).mono ?_
        rintro e w9 ⟨v9, rfl, hv9, he9⟩
        obtain rfl : v9 = .nilIface := hv9
        have hown9 := own_ext HOW.out he9
        obtain ⟨x, hx⟩ : ∃ x, bestC rk = x := ⟨_, rfl⟩
        have hxb := HWF.out rk (List.mem_of_getElem? HRK.out)
        rw [hx] at hxb
        obtain ⟨hx0, hx60⟩ := hxb
        have ck : w9.cell? ⟨g, k, none⟩ = some (.int .i64 x) := (hown9.cellAt k (by omega)).trans (by rw [List.getElem?_map, List.getElem?_map, HRK.out, ← hx]; rfl)
        have fk := hown9.frozenAt k
        have hwx : IntKind.i64.wrap (x - 1) = x - 1 := IntWalk.i64_in _ (by omega)
        have hst := (hown9.stored k (.int .i64 (x - 1))).1
        have HBS := Lib.hid (bent_some HOK.out hv1 HRK.out)
        rw [hx] at HBS
        have hse : ((p.map bestC).map (Value.int .i64)).set k (.int .i64 (x - 1)) = (((p.map bestC).set k (x - 1))).map (Value.int .i64) := by rw [List.map_set]
        rw [hse] at hst
        have HS2 := Lib.hid (Sl.of_own_ints (F := fun _ => True) hst (fun _ _ => trivial) fun y hy => by
          rcases List.mem_or_eq_of_mem_set hy with hy | rfl
          · obtain ⟨x', hx', rfl⟩ := List.mem_map.1 hy
            have := HWF.out x' hx'
            exact WalkArith.wf_i64 (by omega)
          · exact WalkArith.wf_i64 (by omega))
        have hE9 := he.trans he9
        have hg9 : g < w9.heap.size := Nat.lt_of_lt_of_le hg1 he9.size
        have hE10' : Ext w3 (w9.setCell ⟨g, k, none⟩ (.int .i64 (x - 1))) := Ext.st hg0 hE9
        clear hst hse hx hown9 he9
        go_upto_region 20 with fail
        all_goals first | (exfalso; omega) | skip
        obtain ⟨w10, hw10⟩ : ∃ w10, w10 = w9.setCell ⟨g, k, none⟩ (.int .i64 (x - 1)) := ⟨_, rfl⟩
        rw [← hw10] at HS2 hE10' ⊢
        have q10 := (hE10'.cell (p := ⟨w.heap.size, 0, none⟩) (cell_lt2 q3)).trans q3
        have qq10 := (hE10'.cell (p := ⟨gq, 0, none⟩) (cell_lt2 qq)).trans qq
        clear hw10 ck fk he qy qqy
        go_wp2_with fail
        all_goals first | (exfalso; omega) | skip
        refine (checkIs_c (v : Int) (HQ.out.ext hE10') HS2.out HBS.out).mono ?_
        rintro e w11 ⟨v11, rfl, hv11, he11⟩
        have q11 := (he11.cell (p := ⟨w.heap.size, 0, none⟩) (cell_lt2 q10)).trans q10
        have hE11 := hE3.trans (hE10'.trans he11)
        have HV11 := Lib.hid hv11
        clear hv11 he11 q10 qq10
        go_wp2_with fail
        all_goals first | (exfalso; omega) | skip
        refine (At_c partW ((k : Int) + 1) 4 _ (by decide) (WalkArith.wf_i64 (by omega))).mono ?_
        rintro e w12 ⟨A12, c12, rfl, hs12, he12⟩
        go_wp2_with fail
        all_goals first | (exfalso; omega) | skip
        refine (tells_two (HG.out.ext (hE11.trans he12)) (HV11.out.ext he12) hs12).mono ?_
        rintro e w13 ⟨rfl, he13⟩
        have hE13 := (hE11.trans he12).trans he13
        have q13 := ((he12.trans he13).cell (p := ⟨w.heap.size, 0, none⟩) (cell_lt2 q11)).trans q11
        clear hs12 he12 he13 q11 hE11
        go_wp2_with fail
        all_goals first | (exfalso; omega) | skip
        refine (law13ToO_c (HP.out.ext hE13) (by omega) (fun x hx => by rw [HROWS.out x hx]; omega)).mono ?_
        rintro e w14 ⟨A14, n14, c14, rfl, hq14, he14⟩
        obtain rfl : j = n14 := by rw [← hq14.len, HN.out]
        have hfd := field_cells A14 j c14 w14
        have hE14 := hE13.trans he14
        have HRW14 := Lib.hid hq14.rows
        obtain ⟨b, o, rk', cs, rfl, hbF, hbl, hrk', hcs, A', n', c', hcs', hsl, hfz⟩ := hq14.get hkn
        obtain rfl : rk' = rk := by have h1 := HRK.out; rw [hrk'] at h1; exact Option.some.inj h1
        obtain rfl : v = n' := by rw [← hsl.len, HROWS.out rk' (List.mem_of_getElem? hrk')]
        have hmodv : (vx : Int) % (v : Int) = ((vx % v : Nat) : Int) := by simp
        have hiv : vx % v < v := Nat.mod_lt _ hv1
        generalize vx % v = i at hmodv hiv
        obtain ⟨b2, o2, y, rfl, hb2l, hy, c2, -, -⟩ := hsl.int hiv
        obtain ⟨hb2F, -, hfr⟩ := hfz b2 o2 rfl
        have e2 : w14.cell? ⟨b, o + (k * 1 + 0), none⟩ = some (.slice (some ⟨b2, o2, none⟩) v c') := hcs 0 _ (by rw [hcs']; rfl)
        rw [show k * 1 + 0 = k by omega] at e2
        have hjm := hq14.max
        have hjl := hq14.le
        have hvm := hsl.max
        have hvl := hsl.le
        unfold maxLen at hjm hvm
        clear hcs hcs' hsl hfz hrk' hy hq14 he14
        go_upto_region 23 with fail
        all_goals first | (exfalso; omega) | skip
        obtain ⟨w15, hw15⟩ : ∃ w15 : World, w15 = w14.alloc (.cells #[.slice (some ⟨b, o, none⟩) j c14] 24) := ⟨_, rfl⟩
        obtain ⟨gb, hgb⟩ : ∃ gb, w14.heap.size = gb := ⟨_, rfl⟩
        have hx15 : Ext w14 w15 := by rw [hw15]; exact (by repeat (first | exact Ext.refl _ | assumption | refine Ext.al ?_ | refine Ext.dr ?_ | refine Ext.dn ?_ | (refine Ext.st ?_ ?_; · first | omega | (simp; done) | (simp; omega)) | refine Ext.trans ?_ (by assumption)))
        have qb : w15.cell? ⟨gb, 0, none⟩ = some (.slice (some ⟨b, o, none⟩) j c14) := by rw [hw15, ← hgb]; simp
        rw [← hw15, hgb]
        have e15 := (hx15.cell (p := ⟨b, o + k, none⟩) hbl).trans e2
        have c15 := (hx15.cell (p := ⟨b2, o2 + i, none⟩) hb2l).trans c2
        have f15 := (hx15.frozen (p := ⟨b2, o2 + i, none⟩) hb2l).trans (hfr (o2 + i))
        have hE15 := hE14.trans hx15
        have hz13 := hE13.size
        obtain ⟨p', hp', hp2⟩ := (HRW14.out.ext hx15).poke (q := ⟨b2, o2 + i, none⟩) (x := y) (y := to_) HROWS.out c15 HTO.out
        have HP' : Hid (Sl rRows (fun b => w13.heap.size ≤ b) ((w15.setCell ⟨b2, o2 + i, none⟩ (.int .i64 to_)).drew) (some ⟨b, o, none⟩) j c14 p') := Lib.hid (hp'.ext (Ext.dr (Ext.refl _)))
        have HR' := Lib.hid hp2
        have hE16' : Ext w ((w15.setCell ⟨b2, o2 + i, none⟩ (.int .i64 to_)).drew) := Ext.dr (Ext.st (p := ⟨b2, o2 + i, none⟩) (by simp; omega) hE15)
        have qb' : ((w15.setCell ⟨b2, o2 + i, none⟩ (.int .i64 to_)).drew).cell? ⟨gb, 0, none⟩ = some (.slice (some ⟨b, o, none⟩) j c14) := (World.cell?_setCell_far _ _ _ _ (by simp; omega)).trans qb
        have j0 : (0 : Int) ≤ (k : Int) := by omega
        have j1 : (k : Int) < (j : Int) := by omega
        have j2 : (0 : Int) ≤ (i : Int) := by omega
        have j3 : (i : Int) < (v : Int) := by omega
        clear hp' hp2 hw15 hgb hx15 e2 c2 hfr hE14 hE15
        go_region
        go_upto_region 24 with fail
        all_goals first | (exfalso; omega) | skip
        obtain ⟨w16, hw16⟩ : ∃ w16 : World, w16 = (w15.setCell ⟨b2, o2 + i, none⟩ (.int .i64 to_)).drew := ⟨_, rfl⟩
        rw [← hw16] at HP' hE16' qb' ⊢
        clear hw16
        refine wp_region_held_drew (S := (fun w' => Ext w16 w' ∧ w'.cell? ⟨gb, 0, none⟩ = some (.slice (some ⟨b, o, none⟩) j c14))) (by kernel_rfl) ⟨Ext.dr (Ext.refl _), qb'⟩ (fun hHeld => ?_)
        refine wpAnyH_take (i := 0) (v := ?_) rfl (by kernel_rfl) (by kernel_rfl) (by kernel_rfl) (fun _ _ _ h => h) (Or.inl ⟨by rfl, ?_⟩) (by assumption) ?_; rotate_left; (intro W hSw; (try dsimp only at hSw); go_simp; with_reducible rfl); (try simp only [Act.put, List.setIfInBounds_toArray, List.set_cons_zero, List.set_cons_succ, List.getElem_toArray, List.getElem_cons_succ, List.getElem_cons_zero])
        refine wpAnyH_take (i := 1) (v := ?_) rfl (by kernel_rfl) (by kernel_rfl) (by kernel_rfl) (fun _ _ _ h => h) (Or.inl ⟨by rfl, ?_⟩) (by assumption) ?_; rotate_left; (intro W hSw; (try dsimp only at hSw); go_simp; with_reducible rfl); (try simp only [Act.put, List.setIfInBounds_toArray, List.set_cons_zero, List.set_cons_succ, List.getElem_toArray, List.getElem_cons_succ, List.getElem_cons_zero])
        refine wpAnyH_take (i := 4) (v := ?_) rfl (by kernel_rfl) (by kernel_rfl) (by kernel_rfl) (fun _ _ _ h => h) (Or.inl ⟨by rfl, ?_⟩) (by assumption) ?_; rotate_left; (intro W hSw; (try dsimp only at hSw); go_simp; with_reducible rfl); (try simp only [Act.put, List.setIfInBounds_toArray, List.set_cons_zero, List.set_cons_succ, List.getElem_toArray, List.getElem_cons_succ, List.getElem_cons_zero])
        refine wpAnyH_take (i := 5) (v := ?_) rfl (by kernel_rfl) (by kernel_rfl) (by kernel_rfl) (fun _ _ _ h => h) (Or.inl ⟨by rfl, ?_⟩) (by assumption) ?_; rotate_left; (intro W hSw; (try dsimp only at hSw); go_simp; with_reducible rfl); (try simp only [Act.put, List.setIfInBounds_toArray, List.set_cons_zero, List.set_cons_succ, List.getElem_toArray, List.getElem_cons_succ, List.getElem_cons_zero])
        refine wpAnyH_ready (rs := [2]) (by kernel_rfl) (by simp) ?_; refine AllReadyH.cons rfl (fun K hK => ?_) AllReadyH.nil; go_simp
        go_at_call 12
        refine (law13To_c (HP'.out.ext (And.left (by assumption : Ext w16 _ ∧ _))) (by omega) (fun x hx => by rw [HR'.out x hx]; omega)).mono ?_
        rintro e w17 ⟨A17, n17, c17, rfl, hq17, he17⟩
        refine hK.out _ _ ?_ (fun hHeld => ?_)
        · exact kept1 he17 (by assumption)
        clear hK K
        (try simp only [Act.put, List.setIfInBounds_toArray, List.set_cons_zero, List.set_cons_succ, List.getElem_toArray, List.getElem_cons_succ, List.getElem_cons_zero])
        refine wpAnyH_ready (rs := [3]) (by kernel_rfl) (by simp) ?_; refine AllReadyH.cons rfl (fun K hK => ?_) AllReadyH.nil; go_simp
        go_at_call 11
        refine (partCheck_c (v : Int) hq17 (Sl.nil rI (fun _ => True) _)).mono ?_
        rintro e w18 ⟨r8, hr8, v18, rfl, hv18, he18⟩
        refine hK.out _ _ ?_ (fun hHeld => ?_)
        · exact kept1 he18 (by assumption)
        clear hK K
        (try simp only [Act.put, List.setIfInBounds_toArray, List.set_cons_zero, List.set_cons_succ, List.getElem_toArray, List.getElem_cons_succ, List.getElem_cons_zero])
        refine wpAnyH_ready (rs := [6]) (by kernel_rfl) (by simp) ?_; refine AllReadyH.cons rfl (fun K hK => ?_) AllReadyH.nil; go_simp
        go_at_call 13
        refine (CheckPart_c (v : Int) (HP'.out.ext (And.left (by assumption : Ext w16 _ ∧ _))) (Sl.nil rI (fun _ => True) _)).mono ?_
        rintro e w19 ⟨r9, hr9, hw9⟩
        obtain ⟨A8, n8, c8, x8, rfl, hv19, he19⟩ := wr_of_part hr9 hw9
        obtain rfl := partWrong_one hr8 hr9
        refine hK.out _ _ ?_ (fun hHeld => ?_)
        · exact kept1 he19 (by assumption)
        clear hK K
        (try simp only [Act.put, List.setIfInBounds_toArray, List.set_cons_zero, List.set_cons_succ, List.getElem_toArray, List.getElem_cons_succ, List.getElem_cons_zero])
        refine wpAnyH_ready (rs := [7]) (by kernel_rfl) (by simp) ?_; refine AllReadyH.cons rfl (fun K hK => ?_) AllReadyH.nil; go_simp
        go_at_call 10
        refine (tells_c (HG.out.ext (hE16'.trans (And.left (by assumption : Ext w16 _ ∧ _)))) (hv18.ext he19) hv19).mono ?_
        rintro e w20 ⟨rfl, he20⟩
        refine hK.out _ _ ?_ (fun hHeld => ?_)
        · exact kept1 he20 (by assumption)
        clear hK K
        (try simp only [Act.put, List.setIfInBounds_toArray, List.set_cons_zero, List.set_cons_succ, List.getElem_toArray, List.getElem_cons_succ, List.getElem_cons_zero])
        refine wpAnyH_take (i := 8) (v := ?_) rfl (by kernel_rfl) (by kernel_rfl) (by kernel_rfl) (fun _ _ _ h => h) (Or.inl ⟨by rfl, ?_⟩) (by assumption) ?_; rotate_left; (intro W hSw; (try dsimp only at hSw); go_simp; with_reducible rfl); (try simp only [Act.put, List.setIfInBounds_toArray, List.set_cons_zero, List.set_cons_succ, List.getElem_toArray, List.getElem_cons_succ, List.getElem_cons_zero])
        refine wpAnyH_done (by kernel_rfl) ?_ _
        have hEE := hE16'.trans (And.left (by assumption : Ext w16 _ ∧ _))
        go_wp2_with fail
        go_ret
        exact ⟨rfl, hEE⟩
theorem wf_u16n {x : Int} (h : (Lit.int .u16 x).wf = true) : 0 ≤ x ∧ x ≤ 65535 := by
  simp [Lit.wf, IntKind.min, IntKind.max, IntKind.signed, IntKind.bits] at h
  omega
theorem wf_u8n {x : Int} (h : (Lit.int .u8 x).wf = true) : 0 ≤ x ∧ x ≤ 255 := by
  simp [Lit.wf, IntKind.min, IntKind.max, IntKind.signed, IntKind.bits] at h
  omega
theorem partbentI_c (nv vx lv to_ : Int) (hvx : (Lit.int .u16 vx).wf = true) (hlv : (Lit.int .u8 lv).wf = true) (hto : (Lit.int .i64 to_).wf = true) (hp : Sl rRows F w A n c p) (hg : HandleIs w) :
    Calls Tryz.prog 6 #[.int .i64 nv, .agg #[.slice A n c], .int .u16 vx, .int .u8 lv, .int .i64 to_] w fun e w' => e = .returned (.bool true) ∧ Ext w w' := by
  have h1 := wf_u16n hvx
  have h2 := wf_u8n hlv
  obtain ⟨a, rfl⟩ := Int.eq_ofNat_of_zero_le h1.1
  obtain ⟨b, rfl⟩ := Int.eq_ofNat_of_zero_le h2.1
  exact partbent_c nv a b to_ (by omega) (by omega) hto hp hg
end
end Go.Proofs.YtlaobpnbnfoadaaGreatDoor
