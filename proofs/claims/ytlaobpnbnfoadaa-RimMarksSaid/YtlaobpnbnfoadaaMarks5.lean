/-
  RimMarks, stepped through: its test is true of any net, cells and level.
-/
import Derived.Test.YtlaobpnbnfoadaaTop
import Derived.Test.YtlaobpnbnfoadaaMarks4
namespace Go.Proofs.Ytlaobpnbnfoadaa
set_option linter.unusedVariables false
set_option linter.unusedSimpArgs false
set_option linter.unusedSectionVars false
set_option linter.unnecessarySimpa false
open Go Go.RowKit

/-- How often each vertex was marked: those of lower cells, and of this one those before v. -/
def seenUp (row : List Int) (nv : Nat) (cl : Int) (v : Nat) : List Int := (List.range nv).map fun u => match row[u]? with | some x => if x < cl ∨ (u < v ∧ x = cl) then 1 else 0 | none => 0
theorem seenUp_zero {row : List Int} {nv : Nat} (h : ∀ x ∈ row, 0 ≤ x) : seenUp row nv 0 0 = List.replicate nv 0 := by
  apply List.ext_getElem? ; intro i
  simp only [seenUp, List.getElem?_map, List.getElem?_replicate]
  by_cases hi : i < nv
  · simp only [hi, List.getElem?_range, Option.map_some, if_true, Option.some.injEq]
    cases hx : row[i]? with
    | none => rfl
    | some x =>
      have := h x (List.mem_of_getElem? hx)
      simp; omega
  · simp [hi]
theorem seenUp_next {row : List Int} {nv : Nat} (cl : Int) : seenUp row nv cl nv = seenUp row nv (cl + 1) 0 := by
  apply List.ext_getElem? ; intro i
  simp only [seenUp, List.getElem?_map]
  by_cases hi : i < nv
  · simp only [hi, List.getElem?_range, Option.map_some, Option.some.injEq]
    cases hx : row[i]? with
    | none => rfl
    | some x =>
      simp only [Nat.not_lt_zero, false_and, or_false, true_and]
      by_cases h : x < cl + 1
      · rw [if_pos h, if_pos (by omega)]
      · rw [if_neg h, if_neg (by omega)]
  · simp [hi]
/-- Whether a kid marked the vertex, of the first i kids; at the least level: whether the cell does. -/
def innerUp (k : Nat) (mv : Bool) (ks : List Int) (lx : Option Int) (i : Nat) : Bool := (k == 0 && mv) || (ks.take i).any fun x => lx == some x
theorem innerUp_zero (k : Nat) (mv : Bool) (ks : List Int) (lx : Option Int) : innerUp k mv ks lx 0 = (k == 0 && mv) := by simp [innerUp]
theorem innerUp_succ {k : Nat} {mv : Bool} {ks : List Int} {lx : Option Int} {i : Nat} {x : Int} (h : ks[i]? = some x) : innerUp k mv ks lx (i + 1) = (innerUp k mv ks lx i || (lx == some x)) := by
  have e : ks.take (i + 1) = ks.take i ++ [x] := by rw [List.take_add_one, h]; rfl
  simp [innerUp, e, Bool.or_assoc]
theorem inner_end {p : List (List Int)} {nv k v : Nat} {r ks : List Int} {cl : Int} (hp : PartOk nv p) (hr : p[k]? = some r) (hv : v < nv)
    (hks : ∀ x, x ∈ ks ↔ 2 ≤ 1 + (k : Int) ∧ ∃ u : Nat, r[u]? = some cl ∧ (lvl p (1 + (k : Int) - 1))[u]? = some x) :
    innerUp k (r[v]? == some cl) ks ((lvl p (1 + (k : Int) - 1))[v]?) ks.length = (r[v]? == some cl) := by
  cases k with
  | zero =>
    have h0 : ks = [] := List.eq_nil_iff_forall_not_mem.2 fun x hx => by have := ((hks x).1 hx).1; omega
    simp [innerUp, h0]
  | succ k =>
    obtain ⟨l, hl⟩ : ∃ l, p[k]? = some l := ⟨p[k]'(by have := (List.getElem?_eq_some_iff.1 hr).1; omega), List.getElem?_eq_getElem _⟩
    have hlv : lvl p (1 + ((k + 1 : Nat) : Int) - 1) = l := by rw [show (1 + ((k + 1 : Nat) : Int) - 1) = (k : Int) + 1 by omega, lvl_succ hl]
    rw [hlv] at hks ⊢
    have hll := hp.rows l (List.mem_of_getElem? hl)
    have hrl := hp.rows r (List.mem_of_getElem? hr)
    have hn := hp.nest k l r hl hr
    rw [Bool.eq_iff_iff]
    simp only [innerUp, List.take_length, List.any_eq_true, Bool.or_eq_true, Bool.and_eq_true, beq_iff_eq]
    constructor
    · rintro (⟨h, -⟩ | ⟨x, hx, hlx⟩)
      · omega
      · obtain ⟨-, u, hu, hux⟩ := (hks x).1 hx
        have hrv : r[v]? = some (r[v]'(by omega)) := List.getElem?_eq_getElem _
        rw [hrv, NestRow.eq hn hlx hux hrv hu]
    · intro h
      have hlv : l[v]? = some (l[v]'(by omega)) := List.getElem?_eq_getElem _
      exact .inr ⟨_, (hks _).2 ⟨by omega, v, h, hlv⟩, hlv⟩
theorem seenUp_yes {row : List Int} {nv : Nat} {cl : Int} {v : Nat} (hv : v < nv) (h : row[v]? = some cl) : seenUp row nv cl (v + 1) = (seenUp row nv cl v).set v 1 ∧ (seenUp row nv cl v)[v]? = some 0 := by
  constructor
  · apply List.ext_getElem? ; intro i
    rw [List.getElem?_set]
    simp only [seenUp, List.getElem?_map, List.length_map, List.length_range]
    by_cases hi : i < nv
    · simp only [hi, List.getElem?_range, Option.map_some]
      by_cases e : v = i
      · subst e; simp [h, hv]
      · rw [if_neg e]
        cases hx : row[i]? with
        | none => rfl
        | some x =>
          simp only [Option.some.injEq]
          by_cases h2 : x < cl ∨ (i < v + 1 ∧ x = cl)
          · rw [if_pos h2, if_pos (by omega)]
          · rw [if_neg h2, if_neg (by omega)]
    · simp [hi]; omega
  · simp [seenUp, hv, h]
theorem seenUp_not {row : List Int} {nv : Nat} {cl : Int} {v : Nat} (h : row[v]? ≠ some cl) : seenUp row nv cl (v + 1) = seenUp row nv cl v := by
  apply List.ext_getElem? ; intro i
  simp only [seenUp, List.getElem?_map]
  by_cases hi : i < nv
  · simp only [hi, List.getElem?_range, Option.map_some, Option.some.injEq]
    cases hx : row[i]? with
    | none => rfl
    | some x =>
      have : ¬ (i = v ∧ x = cl) := fun ⟨e1, e2⟩ => h (by rw [← e1, ← e2]; exact hx)
      simp only
      by_cases h2 : x < cl ∨ (i < v + 1 ∧ x = cl)
      · rw [if_pos h2, if_pos (by omega)]
      · rw [if_neg h2, if_neg (by omega)]
  · simp [hi]
theorem marksOf_at {row : List Int} {cl : Int} {nv v : Nat} (hv : v < nv) : (marksOf row cl nv)[v]? = some (row[v]? == some cl) := by simp [marksOf, hv]
theorem keptM {wo W W' : World} {b0 b1 o0 o1 : Nat} {v0 v1 : Value} (he : Ext W W') (h : Ext wo W ∧ W.cell? ⟨b0, o0, none⟩ = some v0 ∧ W.cell? ⟨b1, o1, none⟩ = some v1) :
    Ext wo W' ∧ W'.cell? ⟨b0, o0, none⟩ = some v0 ∧ W'.cell? ⟨b1, o1, none⟩ = some v1 :=
  ⟨h.1.trans he, (he.cell (p := ⟨b0, o0, none⟩) (cell_lt2 h.2.1)).trans h.2.1, (he.cell (p := ⟨b1, o1, none⟩) (cell_lt2 h.2.2)).trans h.2.2⟩
section
variable {F F0 F1 F2 : Nat → Prop} {A A0 A1 A2 : Option Addr} {n n0 n1 n2 c c0 c1 c2 : Nat} {p : List (List Int)} {verts arcs : List Tri} {types : List Tab} {w : World}
set_option maxRecDepth 100000 in
set_option maxHeartbeats 16000000 in
theorem rimmarks_c (lv : Int) (hlv : 0 ≤ lv ∧ lv ≤ 255) (h0 : Sl rTri F0 w A0 n0 c0 verts) (h1 : Sl rTri F1 w A1 n1 c1 arcs) (h2 : Sl Rd.table F2 w A2 n2 c2 types) (hp : Sl rRows F w A n c p) :
    Calls Try.prog 6 #[.agg #[.slice A0 n0 c0, .slice A1 n1 c1, .slice A2 n2 c2], .agg #[.slice A n c], .int .u8 lv] w fun e w' => e = .returned (.bool true) ∧ Ext w w' := by
  have hm := hp.max
  have hl := hp.le
  have L0 := Lib.hid h0.len
  have L1 := Lib.hid h1.len
  have L2 := Lib.hid h2.len
  have L3 := Lib.hid hp.len
  go_enter Try.func6, Try.ntmps6
  go_wp2_with fail
  refine known_c.mono ?_
  rintro e w1 ⟨rfl, he1⟩
  have hE1 : Ext w w1 := Ext.trans (by repeat (first | exact Ext.refl _ | assumption | refine Ext.al ?_ | refine Ext.dr ?_ | refine Ext.dn ?_ | (refine Ext.st ?_ ?_; · first | omega | (simp; done) | (simp; omega)) | refine Ext.trans ?_ (by assumption))) he1
  have b0 : Blk w1 w.heap.size 26 #[.slice A0 n0 c0, .slice A1 n1 c1, .slice A2 n2 c2] := Blk.ext (by repeat (first | assumption | (refine Blk.new_at ?_; simp; done) | refine Blk.alloc ?_ _ | refine Blk.drewN ?_ _ | (refine Blk.far ?_ ?_ _; rotate_left; · first | omega | (simp; done) | (simp; omega)))) he1
  have b1 : Blk w1 (w.heap.size + 1) 29 #[.slice A n c] := Blk.ext (by repeat (first | assumption | (refine Blk.new_at ?_; simp; done) | refine Blk.alloc ?_ _ | refine Blk.drewN ?_ _ | (refine Blk.far ?_ ?_ _; rotate_left; · first | omega | (simp; done) | (simp; omega)))) he1
  have q0 : w1.cell? ⟨w.heap.size, 0, none⟩ = some (.slice A0 n0 c0) := b0.cell 0
  have q1 : w1.cell? ⟨w.heap.size, 1, none⟩ = some (.slice A1 n1 c1) := b0.cell 1
  have q2 : w1.cell? ⟨w.heap.size, 2, none⟩ = some (.slice A2 n2 c2) := b0.cell 2
  have q3 : w1.cell? ⟨w.heap.size + 1, 0, none⟩ = some (.slice A n c) := b1.cell 0
  clear he1
  go_wp2_with fail
  refine (May_c (h0.ext hE1) (h1.ext hE1) (h2.ext hE1) (hp.ext hE1)).mono ?_
  rintro e w2 ⟨b, rfl, hb, he2⟩
  have HB := Lib.hid hb
  have hE2 := hE1.trans he2
  have d0 := b0.ext he2
  have d1 := b1.ext he2
  have s0 : w2.cell? ⟨w.heap.size, 0, none⟩ = some (.slice A0 n0 c0) := d0.cell 0
  have s1 : w2.cell? ⟨w.heap.size, 1, none⟩ = some (.slice A1 n1 c1) := d0.cell 1
  have s2 : w2.cell? ⟨w.heap.size, 2, none⟩ = some (.slice A2 n2 c2) := d0.cell 2
  have s3 : w2.cell? ⟨w.heap.size + 1, 0, none⟩ = some (.slice A n c) := d1.cell 0
  clear hb b0 b1 q0 q1 q2 q3 he2 hE1
  cases b with
  | false =>
    go_wp2_with fail
    all_goals first | (exfalso; omega) | skip
    go_ret
    exact ⟨rfl, hE2⟩
  | true =>
    obtain ⟨hmn, hpo⟩ := HB.out rfl
    have M0 := hmn.nv
    have M1 := hmn.na
    have M2 := hmn.nt
    have P6 := hpo.few
    have P1 := hpo.some_
    rw [L0.out] at M0
    rw [L1.out] at M1
    rw [L2.out] at M2
    rw [L3.out] at P6 P1
    have hfit := Lib.hid (hmn.fits hpo)
    have HMN := Lib.hid hmn
    have HPO := Lib.hid hpo
    clear hmn hpo HB
    go_wp2_with fail
    all_goals first | (exfalso; omega) | skip
    refine (law13To_c (hp.ext hE2) (by omega) (fun x hx => by have := HPO.out.rows x hx; rw [this, L0.out]; omega)).mono ?_
    rintro e w4 ⟨Ap, np, cp, rfl, hq, he4⟩
    obtain rfl : n = np := by rw [← hq.len, L3.out]
    have k0 := d0.ext he4
    have k1 := d1.ext he4
    have hE4 := hE2.trans he4
    clear s0 s1 s2 s3 d0 d1 he4 hE2
    have y0 : w4.cell? ⟨w.heap.size + 1, 0, none⟩ = some (.slice A n c) := k1.cell 0
    have y1 : w4.cell? ⟨w.heap.size, 0, none⟩ = some (.slice A0 n0 c0) := k0.cell 0
    have ly0 := k0.lt
    have ly1 := k1.lt
    obtain ⟨lv, rfl⟩ := Int.eq_ofNat_of_zero_le hlv.1
    have hmod : (lv : Int) % (n : Int) = ((lv % n : Nat) : Int) := by simp
    have hkn : lv % n < n := Nat.mod_lt _ (by omega)
    generalize lv % n = k at hmod hkn
    obtain ⟨r, hr⟩ : ∃ r, p[k]? = some r := ⟨p[k]'(by rw [L3.out]; exact hkn), List.getElem?_eq_getElem _⟩
    have hlv1 : lvl p (1 + (k : Int)) = r := by rw [Int.add_comm, lvl_succ hr]
    have hrm := List.mem_of_getElem? hr
    have hrin := HPO.out.inr r hrm
    have hrlen := HPO.out.rows r hrm
    have hrfull := HPO.out.full r hrm
    have HR := Lib.hid hr
    have HRIN := Lib.hid hrin
    have HRLEN := Lib.hid hrlen
    have HRFULL := Lib.hid hrfull
    have HLV := Lib.hid hlv1
    have hmo0 := mostOf_nonneg r
    obtain ⟨mo, hmo⟩ := Int.eq_ofNat_of_zero_le hmo0
    have HMO := Lib.hid hmo
    have hmob : mo ≤ 1000000 := by
      have h1 := mostOf_le (row := r) (n := (verts.length : Int)) (by omega) (fun x hx => (hrin x hx).2)
      have h2 := L0.out
      omega
    clear hr hlv1 hrm hrin hrlen hrfull hmo0 hmo
    obtain ⟨wo, hwo⟩ : ∃ wo : World, wo = w4.alloc (.cells #[.slice Ap n cp] 34) := ⟨_, rfl⟩
    have hEw : Ext w wo := by rw [hwo]; exact (by repeat (first | exact Ext.refl _ | assumption | refine Ext.al ?_ | refine Ext.dr ?_ | refine Ext.dn ?_ | (refine Ext.st ?_ ?_; · first | omega | (simp; done) | (simp; omega)) | refine Ext.trans ?_ (by assumption)))
    have e0 : wo.cell? ⟨w.heap.size, 0, none⟩ = some (.slice A0 n0 c0) := by rw [hwo]; exact (k0.alloc _).cell 0
    have e4 : wo.cell? ⟨w4.heap.size, 0, none⟩ = some (.slice Ap n cp) := by rw [hwo]; simp
    have hq' : Sl rRows (fun _ => True) wo Ap n cp p := by rw [hwo]; exact (hq.ext (by repeat (first | exact Ext.refl _ | assumption | refine Ext.al ?_ | refine Ext.dr ?_ | refine Ext.dn ?_ | (refine Ext.st ?_ ?_; · first | omega | (simp; done) | (simp; omega)) | refine Ext.trans ?_ (by assumption)))).mono fun _ _ _ => trivial
    have HQ : ∀ W, Ext wo W → Sl rRows (fun _ => True) W Ap n cp p := fun W h => hq'.ext h
    have HE0 : ∀ W, Ext wo W → W.cell? ⟨w.heap.size, 0, none⟩ = some (.slice A0 n0 c0) := fun W h => (h.cell (p := ⟨w.heap.size, 0, none⟩) (cell_lt2 e0)).trans e0
    have HE4 : ∀ W, Ext wo W → W.cell? ⟨w4.heap.size, 0, none⟩ = some (.slice Ap n cp) := fun W h => (h.cell (p := ⟨w4.heap.size, 0, none⟩) (cell_lt2 e4)).trans e4
    have hwoS := Lib.hid hwo
    go_wp2_with (at_make; rw [← hwoS.out]; refine wpL_make tyInts rfl (.tmp 35) (.tmp 35) rfl n0 .i64 .i64 rfl rfl (by omega) ?_; intro w5 hm5 he5 hz5; have hE5 : Ext wo w5 := he5; have g5 := HE4 _ hE5)
    have hb5 : Blk w5 wo.heap.size 3 ((seenUp r n0 (0 : Nat) 0).map (Value.int .i64)).toArray := by
      rw [show ((0 : Nat) : Int) = 0 from rfl, seenUp_zero (fun x hx => (HRIN.out x hx).1)]
      simpa [madeCells_one, Value.cells] using hm5
    have hrow0 : ∀ x ∈ p, x.length = n0 := fun x hx => by rw [HPO.out.rows x hx, L0.out]
    have HROW := Lib.hid hrow0
    have hrsm : ∀ x ∈ r, -1000000 ≤ x ∧ x ≤ 1000000 := fun x hx => by
      have h1 := HRIN.out x hx
      have h2 := L0.out
      omega
    have HRSM := Lib.hid hrsm
    have lwo := he5.size
    have HWS := Lib.hid (show wo.heap.size = w4.heap.size + 1 by rw [hwoS.out]; simp)
    clear hm5 he5 hz5 hrow0 hrsm g5 hwoS hwo hq hq' k0 k1 hE4 hp h0 h1 h2 hmod y0 y1 ly0 ly1 hlv
    go_loopw [10] (fun i wr => ∃ cl : Nat, cl ≤ mo ∧ i = .int .i64 cl ∧ Blk wr wo.heap.size 3 ((seenUp r n0 (cl : Int) 0).map (Value.int .i64)).toArray ∧ Ext wo wr) (fun i _ => mo - (intOf i).toNat)
    case atStart => exact ⟨0, Nat.zero_le _, rfl, hb5, hE5⟩
    case round =>
      obtain ⟨cl, hcl, rfl, hbt, heo⟩ := hrel
      have g4 := HE4 _ heo
      obtain ⟨wz, rfl⟩ : ∃ wz : World, wz = wr := ⟨_, rfl⟩
      go_wp2_with fail
      refine (Count_c _ (HQ _ heo) (by rw [HLV.out]; exact HRSM.out)).mono ?_
      rintro e w7 ⟨rfl, he7⟩
      rw [HLV.out, HMO.out]
      have hE7 := heo.trans he7
      have hbt7 := hbt.ext he7
      have hl7 := hbt7.lt
      have g7 := HE4 _ hE7
      clear g4 hbt he7 hb5
      by_cases hcn : cl < mo
      · go_wp2_with fail
        all_goals first | (exfalso; omega) | skip
        refine (rimMarks_c (nv := n0) _ _ (by omega) (by omega) HROW.out (HQ _ hE7)).mono ?_
        rintro e w8 ⟨A8, n8, c8, rfl, hx8, he8⟩
        obtain rfl : n8 = n0 := by rw [← hx8.len]; simp [marksOf]
        have hE8 := hE7.trans he8
        have hbt8 := hbt7.ext he8
        have g8 := HE4 _ hE8
        have j8 := HE0 _ hE8
        replace hx8 := hx8.mono (G := fun b => wo.heap.size < b) (fun b h _ => by omega)
        rw [HLV.out] at hx8
        clear g7 hbt7 he8
        go_wp2_with fail
        all_goals first | (exfalso; omega) | skip
        refine (Kids_c _ _ (HQ _ hE8) (fun _ => ⟨by omega, by rw [HLV.out, HRLEN.out, L0.out]; omega, ?_, ?_⟩)).mono ?_
        · obtain ⟨k', rfl⟩ : ∃ k' : Nat, k = k' + 1 := ⟨k - 1, by omega⟩
          have hlow : p[k']? = some (p[k']'(by rw [L3.out]; omega)) := List.getElem?_eq_getElem _
          rw [HLV.out, HRLEN.out, show (1 + ((k' + 1 : Nat) : Int) - 1) = (k' : Int) + 1 by omega, lvl_succ hlow]
          exact HPO.out.rows _ (List.mem_of_getElem? hlow)
        · rw [HLV.out]; exact HRFULL.out cl (by omega) (by rw [HMO.out]; omega)
        rintro e w9 ⟨A9, n9, c9, ks, rfl, hk9, hks, hn9, he9⟩
        have hl8 := hbt8.lt
        have hE9 := hE8.trans he9
        have hbt9 := hbt8.ext he9
        have hm9 := hx8.ext he9
        replace hk9 := hk9.mono (G := fun b => wo.heap.size < b) (fun b h _ => by omega)
        rw [HLV.out] at hks hn9
        have HKS := Lib.hid hks
        have hn9' := hn9
        rw [HRLEN.out, L0.out] at hn9'
        clear hks hn9 hbt8 hx8 he9 g8 j8
        go_wp2_with fail
        go_loopw [13] (fun i wr => ∃ v : Nat, v ≤ n8 ∧ i = .int .i64 v ∧ Blk wr wo.heap.size 3 ((seenUp r n8 (cl : Int) v).map (Value.int .i64)).toArray ∧ Sl Rd.bool (fun b => wo.heap.size < b) wr A8 n8 c8 (marksOf r cl n8) ∧ Sl rI (fun b => wo.heap.size < b) wr A9 n9 c9 ks ∧ Ext wo wr) (fun i _ => n8 - (intOf i).toNat)
        case atStart => exact ⟨0, Nat.zero_le _, rfl, hbt9, hm9, hk9, hE9⟩
        case round =>
          obtain ⟨v, hv, rfl, hbt, hmt, hkt, heo⟩ := hrel
          by_cases hvn : v < n8
          · obtain ⟨bm, om, x, rfl, hbm, hxm, cm⟩ := hmt.bool hvn
            have hxe : x = (r[v]? == some (cl : Int)) := by
              have h := hxm.out
              rw [marksOf_at hvn] at h
              exact (Option.some.inj h).symm
            have HXE := Lib.hid hxe
            have HLE := Lib.hid hkt.len
            obtain ⟨wz, rfl⟩ : ∃ wz : World, wz = wr := ⟨_, rfl⟩
            obtain ⟨lx, hlx⟩ : ∃ lx, (lvl p (1 + (k : Int) - 1))[v]? = lx := ⟨_, rfl⟩
            have HLX := Lib.hid hlx
            obtain ⟨k0, hk0⟩ : ∃ k0 : Bool, (k == 0) = k0 := ⟨_, rfl⟩
            have hk1 : ((1 : Int) + (k : Int) == 1) = k0 := by rw [← hk0, Bool.eq_iff_iff]; simp; omega
            have HK0 := Lib.hid hk0
            clear hxe hxm hlx hk0 hbt9 hm9 hk9
            cases k0
            all_goals
              go_wp2_with fail
              all_goals first | (exfalso; omega) | skip
              go_loopw [14, 15] (fun a i wr => ∃ (j : Nat) (iu : Bool), j ≤ n9 ∧ i = .int .i64 j ∧ a = .bool iu ∧ Hid (iu = innerUp k x ks lx j) ∧ Ext wz wr) (fun _ i _ => n9 - (intOf i).toNat)
              case atStart => exact ⟨0, _, Nat.zero_le _, rfl, rfl, Lib.hid (by rw [innerUp_zero, HK0.out]; simp), Ext.refl _⟩
              case round =>
                obtain ⟨j, iu, hj, rfl, rfl, hiu, hez⟩ := hrel
                obtain ⟨wy, rfl⟩ : ∃ wy : World, wy = wr := ⟨_, rfl⟩
                have hey := heo.trans hez
                by_cases hjn : j < n9
                · obtain ⟨bk, ko, y, rfl, hbk, hy, ck, -, -⟩ := (hkt.ext hez).int hjn
                  have g5 := HE4 _ hey
                  have bw : IntKind.i64.wrap ((1 : Int) + (k : Int) - 1) = (1 : Int) + (k : Int) - 1 := IntWalk.i64_in _ (by omega)
                  go_wp2_with fail
                  all_goals first | (exfalso; omega) | skip
                  go_region_held3 (fun w' => Ext wy w' ∧ w'.cell? ⟨w4.heap.size, 0, none⟩ = some (.slice Ap n cp) ∧ w'.cell? ⟨bk, ko + j, none⟩ = some (.int .i64 y))
                    (first | assumption | exact ⟨Ext.dr (Ext.refl _), g5, ck⟩ | exact keptM (by assumption) (by assumption))
                    (first | fail | (
                      go_at_call 19
                      have hE := hey.trans (And.left (by assumption : Ext wy _ ∧ _))
                      refine Calls.mono (rimMarks_c (nv := n8) _ _ (by omega) (by omega) HROW.out (HQ _ hE)) ?_
                      rintro e w10 ⟨A10, n10, c10, rfl, hx10, he10⟩
                      clear hE))
                  all_goals
                    rename_i K hK hH
                    have hEE : Ext wy w10 := And.left (by assumption : Ext wy w10 ∧ _)
                    refine hK _ _ ?_
                    clear hH
                    obtain rfl : n8 = n10 := by rw [← hx10.len]; simp [marksOf]
                    obtain ⟨b2, o2, z, rfl, hb2, hz, cz⟩ := hx10.bool hvn
                    have hze : z = (lx == some y) := by
                      have h := hz.out
                      rw [marksOf_at hvn, HLX.out] at h
                      exact (Option.some.inj h).symm
                    have HZE := Lib.hid hze
                    clear hze hz hx10
                    cases iu
                    all_goals
                      go_wp2_with fail
                      all_goals first | (exfalso; omega) | skip
                      go_roundw
                      case rel => exact ⟨j + 1, _, by omega, by go_num, rfl, Lib.hid (by rw [innerUp_succ hy.out, ← hiu.out, ← HZE.out]; simp), hez.trans hEE⟩
                      case measure => simp [intOf]; omega
                · obtain rfl : j = n9 := by omega
                  have hx : iu = x := by
                    rw [hiu.out, ← HLX.out, ← HLE.out]
                    conv => rhs; rw [HXE.out]
                    rw [HXE.out]
                    exact inner_end HPO.out HR.out (by rw [L0.out]; exact hvn) HKS.out
                  subst hx
                  have cm' : wy.cell? ⟨bm, om + v, none⟩ = some (.bool iu) := (hez.cell (p := ⟨bm, om + v, none⟩) hbm).trans cm
                  have hby := hbt.ext hez
                  have hmy := hmt.ext hez
                  have hky := hkt.ext hez
                  clear hbt hmt hkt hbm hE5
                  cases iu
                  · have hnr : r[v]? ≠ some (cl : Int) := fun e => by
                      have h := HXE.out
                      rw [e] at h
                      simp at h
                    rw [← seenUp_not hnr] at hby
                    clear hnr
                    go_wp2_with fail
                    all_goals first | (exfalso; omega) | skip
                    go_roundw
                    case rel => exact ⟨v + 1, by omega, by go_num, hby, hmy, hky, hey⟩
                    case measure => simp [intOf]; omega
                  · have hyr : r[v]? = some (cl : Int) := by
                      have h := HXE.out.symm
                      simpa using h
                    obtain ⟨hs1, hs2⟩ := seenUp_yes hvn hyr
                    have c1 : wy.cell? ⟨wo.heap.size, v, none⟩ = some (.int .i64 0) := by
                      rw [hby.cell]
                      simp [hs2]
                    have f1 := hby.frozen v
                    have HB2 := Lib.hid (show Blk (wy.setCell ⟨wo.heap.size, v, none⟩ (.int .i64 1)) wo.heap.size 3 ((seenUp r n8 (cl : Int) (v + 1)).map (Value.int .i64)).toArray by
                      rw [hs1]
                      simpa [List.map_set] using hby.set_ v (.int .i64 1))
                    have hm2 := hmy.setCell (p := ⟨wo.heap.size, v, none⟩) (by simp) (.int .i64 1)
                    have hk2 := hky.setCell (p := ⟨wo.heap.size, v, none⟩) (by simp) (.int .i64 1)
                    have hE2 : Ext wo (wy.setCell ⟨wo.heap.size, v, none⟩ (.int .i64 1)) := Ext.st (by simp) hey
                    rw [HWS.out] at c1 f1 hE2
                    have HM2 := Lib.hid hm2
                    have HK2 := Lib.hid hk2
                    clear hyr hs1 hs2 hm2 hk2
                    go_wp2_with fail
                    all_goals first | (exfalso; omega) | skip
                    go_roundw
                    case rel => exact ⟨v + 1, by omega, by go_num, by simpa [HWS.out] using HB2.out, by simpa [HWS.out] using HM2.out, by simpa [HWS.out] using HK2.out, hE2⟩
                    case measure => simp [intOf]; omega
          · obtain rfl : v = n8 := by omega
            rw [seenUp_next] at hbt
            go_wp2_with fail
            all_goals first | (exfalso; omega) | skip
            go_roundw
            case rel => exact ⟨cl + 1, by omega, by go_num, by simpa using hbt, heo⟩
            case measure => simp [intOf]; omega
      · obtain rfl : cl = mo := by omega
        go_wp2_with fail
        all_goals first | (exfalso; omega) | skip
        go_loop [17] (fun i => ∃ a : Nat, a ≤ n0 ∧ i = .int .i64 a) (fun i => n0 - (intOf i).toNat)
        case atStart => exact ⟨0, Nat.zero_le _, rfl⟩
        case round =>
          obtain ⟨a, ha, rfl⟩ := hrel
          by_cases han : a < n0
          · have hra : r[a]? = some (r[a]'(by rw [HRLEN.out, L0.out]; exact han)) := List.getElem?_eq_getElem _
            have hlt := mostOf_ge (List.mem_of_getElem? hra)
            rw [HMO.out] at hlt
            have hcell : w7.cell? ⟨wo.heap.size, a, none⟩ = some (.int .i64 1) := by
              rw [hbt7.cell]
              simp only [List.getElem?_toArray, List.getElem?_map, seenUp, List.getElem?_range han, Option.map_some, hra]
              rw [if_pos (by omega)]
            rw [HWS.out] at hcell
            clear hra hlt
            go_wp2_with fail
            all_goals first | (exfalso; omega) | skip
            go_round
            case rel => exact ⟨a + 1, by omega, by go_num⟩
            case measure => simp [intOf]; omega
          · obtain rfl : a = n0 := by omega
            go_wp2_with fail
            all_goals first | (exfalso; omega) | skip
            go_ret
            exact ⟨rfl, hEw.trans hE7⟩
end
end Go.Proofs.Ytlaobpnbnfoadaa
