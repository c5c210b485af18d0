/-
  Contract of the document's Kids. Conditions: the readings; cells that may be, of at most 60 vertices.
-/
import Derived.Test.YtlaobpnbnfoadaaGreatDoorMgC
import Derived.Test.YtlaobpnbnfoadaaGreatDoorQ13
namespace Go.Proofs.YtlaobpnbnfoadaaGreatDoor
set_option linter.unusedVariables false
set_option linter.unusedSimpArgs false
set_option linter.unusedSectionVars false
set_option linter.unnecessarySimpa false
open Go Go.RowKit

theorem PartOk.two {nv : Nat} {p : List (List Int)} (h : PartOk nv p) {l : Int} (h2 : 2 ≤ l) (hl : l ≤ p.length) : ∃ low row, lvl p (l - 1) = low ∧ lvl p l = row ∧ InRow nv low ∧ InRow nv row ∧ FullRow low ∧ FullRow row ∧ NestRow low row ∧ low.length = nv ∧ row.length = nv := by
  obtain ⟨k, rfl⟩ : ∃ k : Nat, l = (k : Int) + 2 := ⟨(l - 2).toNat, by omega⟩
  have h1 : k + 1 < p.length := by omega
  have e1 : p[k]? = some p[k] := List.getElem?_eq_getElem (by omega)
  have e2 : p[k + 1]? = some p[k + 1] := List.getElem?_eq_getElem h1
  have m1 := List.getElem_mem (l := p) (n := k) (by omega)
  have m2 := List.getElem_mem (l := p) (n := k + 1) h1
  refine ⟨p[k], p[k + 1], ?_, ?_, h.inr _ m1, h.inr _ m2, h.full _ m1, h.full _ m2, h.nest k _ _ e1 e2, h.rows _ m1, h.rows _ m2⟩
  · rw [show (k : Int) + 2 - 1 = (k : Int) + 1 by omega, lvl_nat, e1]; rfl
  · have := lvl_nat p (k + 1)
    rw [e2] at this
    rw [show (k : Int) + 2 = ((k + 1 : Nat) : Int) + 1 by omega, this]; rfl
theorem kids_of {nv : Nat} {p : List (List Int)} (h : PartOk nv p) {l : Int} (h2 : 2 ≤ l) (hl : l ≤ p.length) (cl : Int) : KidsIs p l cl (ofI (upsOf (lvl p (l - 1)) (lvl p l)) cl) := by
  obtain ⟨low, row, e1, e2, i1, i2, f1, f2, hn, l1, l2⟩ := h.two h2 hl
  rw [KidsIs, e1, e2]
  refine ⟨ofUp_asc _ _ _, fun x => ?_⟩
  rw [ofI_mem]
  constructor
  · rintro ⟨c, rfl, hc⟩
    obtain ⟨v, h3, h4⟩ := upsOf_from i1 f1 (by omega) hn hc
    exact ⟨h2, v, h4, h3⟩
  · rintro ⟨-, v, h3, h4⟩
    have h5 := upsOf_at i1 (by omega) hn h4 h3
    have := i1 x (List.mem_of_getElem? h4)
    exact ⟨x.toNat, by omega, h5⟩
theorem up_of {nv : Nat} {p : List (List Int)} (h : PartOk nv p) {l : Int} (h2 : 2 ≤ l) (hl : l ≤ p.length) {c : Nat} {u : Int} (hc : (c : Int) < mostOf (lvl p (l - 1))) (hu : UpIs p (l - 1) c u) : (upsOf (lvl p (l - 1)) (lvl p l))[c]? = some u := by
  obtain ⟨low, row, e1, e2, i1, i2, f1, f2, hn, l1, l2⟩ := h.two h2 hl
  rw [e1] at hc
  have hmem : (c : Int) ∈ low := f1 c (by omega) hc
  rcases hu with ⟨-, h3⟩ | ⟨h3, v, h4, h5, h6⟩
  · exfalso
    rw [e1] at h3
    rcases h3 with h3 | h3
    · omega
    · exact h3 hmem
  · rw [e1] at h4
    rw [show l - 1 + 1 = l by omega, e2] at h6
    rw [e1, e2]
    exact upsOf_at i1 (by omega) hn h4 h6
section
variable {F : Nat → Prop} {A : Option Addr} {n c nv : Nat} {p : List (List Int)} {w : World}
theorem lvl_in_bd {nv : Nat} {p : List (List Int)} (h : PartOk nv p) (l : Int) : InRow nv (lvl p l) := by
  by_cases hl : 1 ≤ l ∧ l ≤ p.length
  · obtain ⟨k, -, r, hr, e⟩ := lvl_in hl.1 hl.2
    rw [e]
    exact h.inr r (List.mem_of_getElem? hr)
  · rw [lvl_out hl]
    exact fun x hx => by cases hx
set_option maxHeartbeats 2000000 in
theorem refCountG_c (l : Int) (hp : Sl rRows F w A n c p) (hok : PartOk nv p) :
    Calls Tryz.prog 16 #[.agg #[.slice A n c], .int .i64 l] w fun e w' => e = .returned (.int .i64 (mostOf (lvl p l))) ∧ Ext w w' := by
  have hpl := hp.len
  have hbd := lvl_in_bd hok l
  have hnv := hok.nv_
  by_cases h : 1 ≤ l ∧ l ≤ p.length
  · obtain ⟨k, rfl, r, hr, e⟩ := lvl_in h.1 h.2
    rw [e] at hbd ⊢
    exact refCount_c hp hr fun x hx => by have := hbd x hx; omega
  · rw [lvl_out h]
    go_enter Tryz.func16, Tryz.ntmps16
    go_wp2_with fail
    all_goals first | (exfalso; omega) | skip
    refine (Has_c _ _).mono ?_
    rintro e w1 ⟨rfl, he1⟩
    have hd : decide (1 ≤ l ∧ l ≤ n) = false := by simp; omega
    rw [hd]
    have hE1 : Ext w w1 := Ext.trans (Ext.al (Ext.refl w)) he1
    go_wp2_with fail
    all_goals first | (exfalso; omega) | skip
    go_ret
    exact ⟨rfl, hE1⟩
set_option maxRecDepth 100000 in
set_option maxHeartbeats 4000000 in
theorem refKids_c (l cl : Int) (hp : Sl rRows F w A n c p) (hok : PartOk nv p) :
    Calls Tryz.prog 23 #[.agg #[.slice A n c], .int .i64 l, .int .i64 cl] w (KidsEnd p l cl w) := by
  have hpl := hp.len
  have hpm := hp.max
  have hple := hp.le
  unfold maxLen at hpm
  have hp' := hp.lt
  have hnv := hok.nv_
  have hn6 : n ≤ 6 := by have := hok.few; omega
  have HOK := Lib.hid hok
  by_cases hl : 1 ≤ l ∧ l ≤ n
  · have hd : decide (1 ≤ l ∧ l ≤ n) = true := by simpa using hl
    have hl6 : l ≤ 6 := by have := hok.few; omega
    obtain ⟨m, hm⟩ : ∃ m : Nat, mostOf (lvl p (l - 1)) = (m : Int) := ⟨(mostOf (lvl p (l - 1))).toNat, by have := mostOf_nonneg (lvl p (l - 1)); omega⟩
    have hmb : m ≤ 4096 := by have := (lvl_in_bd hok (l - 1)).most; omega
    obtain ⟨ups, hups⟩ : ∃ ups, upsOf (lvl p (l - 1)) (lvl p l) = ups := ⟨_, rfl⟩
    have HM := Lib.hid hm
    have HK : Hid (KidsIs p l cl (ofUp ups cl m)) := Lib.hid (by
      by_cases h2 : 2 ≤ l
      · have := kids_of hok h2 (by omega) cl
        rw [hups, ofI, ← hups, upsOf_len, hm, Int.toNat_natCast, hups] at this
        exact this
      · have : m = 0 := by
          rw [lvl_out (by omega)] at hm
          simp [mostOf] at hm
          omega
        subst this
        exact kids_none fun h => h2 h.1)
    have HUP : Hid (∀ (k : Nat) (u : Int), k < m → UpIs p (l - 1) k u → ups[k]? = some u) := Lib.hid (fun k u hk hu => by
      have h2 : 2 ≤ l := by
        by_cases h2 : 2 ≤ l
        · exact h2
        · rw [lvl_out (by omega)] at hm
          simp [mostOf] at hm
          omega
      rw [← hups]
      exact up_of hok h2 (by omega) (by omega) hu)
    clear hm hups hok
    go_enter Tryz.func23, Tryz.ntmps23
    go_wp2_with fail
    refine (Has_c _ _).mono ?_
    rintro e w0 ⟨rfl, he0⟩
    rw [hd]
    have hE0 : Ext w w0 := Ext.trans (by repeat (first | exact Ext.refl _ | assumption | refine Ext.al ?_ | refine Ext.dr ?_ | refine Ext.dn ?_ | (refine Ext.st ?_ ?_; · first | omega | (simp; done) | (simp; omega)) | refine Ext.trans ?_ (by assumption))) he0
    have hz0 : w.heap.size + 1 ≤ w0.heap.size := by have := he0.size; simp at this; omega
    have p0 : w0.cell? ⟨w.heap.size, 0, none⟩ = some (.slice A n c) := (he0.cell (p := ⟨w.heap.size, 0, none⟩) (by simp)).trans (by simp)
    clear he0
    go_wp2_with fail
    go_loopw [7, 8] (fun v i wr => ∃ k : Nat, k ≤ m ∧ i = .int .i64 k ∧ wr.ownsRow (w.heap.size + 1) 3 1 v (ofUp ups cl k).length ((ofUp ups cl k).map (Value.int .i64)) ∧ Below w.heap.size w wr ∧ w.heap.size + 1 ≤ wr.heap.size ∧
      wr.cell? ⟨w.heap.size, 0, none⟩ = some (.slice A n c)) (fun _ i _ => m - (intOf i).toNat)
    case atStart => exact ⟨0, Nat.zero_le _, rfl, World.ownsRow_nil _ _ _ _, hE0, hz0, p0⟩
    case round =>
      clear hE0 hz0 p0
      obtain ⟨k, hk, rfl, hown, hbel, hsz, q0⟩ := hrel
      have hpkl := ofUp_le ups cl k
      go_wp2_with fail
      all_goals first | (exfalso; omega) | skip
      refine (refCountG_c (l - 1) (hp'.below hbel (fun _ h _ => h)) HOK.out).mono ?_
      rintro e w1 ⟨rfl, he1⟩
      rw [HM.out]
      obtain ⟨hc1, hf1⟩ := bcell he1
      have r0 := (hc1 _ 0 (by omega)).trans q0
      have hown1 := own_ext hown he1
      have hz1 : w.heap.size + 1 ≤ w1.heap.size := Nat.le_trans hsz he1.size
      have hbel1 := below_ext hbel he1 hbel.size
      clear hc1 hf1 q0 hown he1 hbel hsz
      by_cases hkm : k < m
      · go_wp2_with fail
        all_goals first | (exfalso; omega) | skip
        refine (refUp_c (l - 1) k (hp'.below hbel1 (fun _ h _ => h)) HOK.out.rows (by omega) (by omega)).mono ?_
        rintro e w2 ⟨u, rfl, hu, ⟨u0, u1⟩, he2⟩
        have hul := HUP.out k u hkm hu
        obtain ⟨hc1, hf1⟩ := bcell he2
        have s0 := (hc1 _ 0 (by omega)).trans r0
        have hown2 := own_ext hown1 he2
        have hz2 : w.heap.size + 1 ≤ w2.heap.size := Nat.le_trans hz1 he2.size
        have hbel2 := below_ext hbel1 he2 hbel1.size
        clear hc1 hf1 r0 hown1 he2 hbel1 hz1 hu
        by_cases hxc : u = cl
        · have hdd : (u == cl) = true := by simpa using hxc
          have hcf : ofUp ups cl (k + 1) = ofUp ups cl k ++ [(k : Int)] := by
            rw [ofUp, if_pos (by rw [hul, hxc])]
          have HCF := Lib.hid hcf
          clear hcf hxc hul
          go_wp2_with (at_builtin; refine wpL_append1 tyInts rfl (.tmp 28) (.tmp 30) rfl rfl hown2 #[.int .i64 k] rfl rfl (by simp [Value.oneCell']) (by omega) hz2 ?_; intro g3 cap w3 hown3 hgr3 hat3 hlt3)
          all_goals first | (exfalso; omega) | skip
          go_roundw
          case rel => exact ⟨k + 1, by omega, by go_num, by rw [HCF.out]; simpa using hown3, below_own hbel2 hown2 hgr3 (by omega) (by omega), by have := hgr3.size; omega, own_far hown2 hgr3 (by omega) s0⟩
          case measure => simp [intOf]; omega
        · have hdd : (u == cl) = false := by simpa using hxc
          have hcf : ofUp ups cl (k + 1) = ofUp ups cl k := by
            rw [ofUp, if_neg (by rw [hul]; simpa using hxc)]
          have HCF := Lib.hid hcf
          clear hcf hul
          go_wp2_with fail
          all_goals first | (exfalso; omega) | skip
          go_roundw
          case rel => exact ⟨k + 1, by omega, by go_num, by rw [HCF.out]; exact hown2, hbel2, hz2, s0⟩
          case measure => simp [intOf]; omega
      · obtain rfl : k = m := by omega
        obtain ⟨A4, c4, rfl, -⟩ := own_shape hown1
        have hsl := Lib.hid (Sl.of_own_ints (F := fun b => w.heap.size ≤ b) hown1 (fun g h => by omega) (ofUp_wf (by omega)))
        clear hown1
        go_wp2_with fail
        all_goals first | (exfalso; omega) | skip
        go_ret
        exact ⟨A4, _, c4, _, rfl, hsl.out, HK.out, hbel1⟩
  · have hd : decide (1 ≤ l ∧ l ≤ n) = false := by simpa using hl
    have HK : Hid (KidsIs p l cl []) := Lib.hid (kids_none fun ⟨h1, v, x, h3, h4⟩ => by
      rw [lvl_out (l := l) (by omega)] at h3
      simp at h3)
    go_enter Tryz.func23, Tryz.ntmps23
    go_wp2_with fail
    refine (Has_c _ _).mono ?_
    rintro e w0 ⟨rfl, he0⟩
    rw [hd]
    have hE0 : Ext w w0 := Ext.trans (by repeat (first | exact Ext.refl _ | assumption | refine Ext.al ?_ | refine Ext.dr ?_ | refine Ext.dn ?_ | (refine Ext.st ?_ ?_; · first | omega | (simp; done) | (simp; omega)) | refine Ext.trans ?_ (by assumption))) he0
    go_wp2_with fail
    all_goals first | (exfalso; omega) | skip
    go_ret
    exact ⟨none, 0, 0, [], rfl, Sl.nil _ _ _, HK.out, hE0⟩
end
end Go.Proofs.YtlaobpnbnfoadaaGreatDoor
