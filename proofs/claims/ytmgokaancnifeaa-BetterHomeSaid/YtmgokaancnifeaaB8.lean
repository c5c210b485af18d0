/-
  Contracts of slices.Clone at []int and [][]int, ref28.SameRoutes, ref28.CopyRoutes. Conditions: the readings; few and short rows.
-/
import Derived.Test.YtmgokaancnifeaaB6
import Derived.Test.YtmgokaancnifeaaB7
namespace Go.Proofs.Ytmgokaancnifeaa
set_option linter.unusedVariables false
set_option linter.unusedSimpArgs false
set_option linter.unusedSectionVars false
set_option linter.unnecessarySimpa false
open Go Go.RowKit

theorem tyRoutes : SlTy Try.prog 26 44 1 24 (.slice none 0 0) := ⟨Try.underlying26, info_parts (by kernel_rfl), rfl, by decide, by decide⟩
theorem own_empty {w : World} {base : Nat} {e : TypeId} {size : Nat} {cs : Array Value} (hb : base ≤ w.heap.size) (hs : cs.size = 0) : (w.alloc (.cells cs e)).ownsRow base e size (.slice (some ⟨w.heap.size, 0, none⟩) 0 0) 0 [] :=
  own_empty_at rfl hb hs
theorem top_appended {F : Nat → Prop} {w w' : World} {e : TypeId} {cs : Array Value} {m : Nat} {xs : List (List Int)} {v : Value} {cells : List Value} (hl : xs.length = m)
    (h : Appended (Rd.slice (Rd.int .i64)) (w.alloc (.cells cs e)) w.heap.size e (.slice (some ⟨w.heap.size, 0, none⟩) 0 0) 0 [] F m xs v w' cells) (hF : ∀ b, F b → b < w.heap.size) : Top F w' w.heap.size e v xs ∧ Ext w w' := by
  obtain ⟨hcl, hown, hgr, hat, h1, hx⟩ := h
  simp only [Nat.zero_add, List.nil_append] at hown
  have hv : ∀ b, b < w.heap.size → some b ≠ v.ownBlock := fun b hb he => by
    rcases hat with h3 | h3
    · rw [h3] at he
      injection he with he
      simp at he
      omega
    · rw [h3] at he
      injection he with he
      simp at he
      omega
  have hE : Ext w w' := Below.grown (Below.alloc (Below.refl _ _) (Nat.le_refl _) _) hgr (by simp) fun k hk => by
    injection hk with hk
    simp [← hk]
  refine ⟨⟨cells, by rw [hl]; exact hown, fun k f r hf hr => ?_⟩, hE⟩
  obtain ⟨A, n2, c, h4, h5⟩ := hx k r hr
  have hk := (List.getElem?_eq_some_iff.1 hf).1
  have hf' := (List.getElem?_eq_some_iff.1 hf).2
  have h6 : (cells.drop (k * 1)).take 1 = [cells[k]] := by rw [Nat.mul_one, List.drop_eq_getElem_cons hk, List.take_succ_cons, List.take_zero]
  have h7 : [cells[k]] = [.slice A n2 c] := h6.symm.trans h4
  injection h7 with h7
  refine ⟨A, n2, c, by rw [← hf', h7], ?_⟩
  have h8 : Sl (Rd.int .i64) F w' A n2 c r := h5.keep fun b hb hlt => hgr.block b hlt (fun he => by
    injection he with he
    have := hF b hb
    simp at he
    omega)
  exact h8.mono fun b hb _ => ⟨hb, hv b (hF b hb)⟩
theorem sameIntsB {F G : Nat → Prop} {A B : Option Addr} {n m c d : Nat} {w : World} {xs ys : List Int} {b : Bool} (hx : Sl rI F w A n c xs) (hy : Sl rI G w B m d ys) (h : decide (xs = ys) = b) :
    Calls Try.prog 25 #[.slice A n c, .slice B m d] w fun e w' => e = .returned (.bool b) ∧ Ext w w' :=
  (SameInts_c hx hy).mono fun e w' ⟨h1, q, hq⟩ => ⟨by rw [h1, h], hq ▸ Ext.drewN _ _⟩
theorem kept2 {wo w w' : World} {a b : Addr} {x y : Value} (h : Ext w w') (hk : Ext wo w ∧ w.cell? a = some x ∧ w.cell? b = some y) : Ext wo w' ∧ w'.cell? a = some x ∧ w'.cell? b = some y :=
  ⟨hk.1.trans h, (h.cell (cell_lt2 hk.2.1)).trans hk.2.1, (h.cell (cell_lt2 hk.2.2)).trans hk.2.2⟩
section
variable {F G : Nat → Prop} {A B : Option Addr} {n m c c2 : Nat} {xs : List Int} {rs qs : List (List Int)} {w : World}
theorem cloneInts_c (hs : Sl rI F w A n c xs) (hb : n ≤ 1000) : Calls Try.prog 42 #[.slice A n c] w fun e w' => ∃ A' c', e = .returned (.slice A' n c') ∧ Sl rI (fun b => w.heap.size ≤ b) w' A' n c' xs ∧ Ext w w' := by
  have hnil := fun W => Lib.run_eql_slice_nil (P := Try.prog) W 44 3 A n c 0 0 Try.underlying44
  have HL := Lib.hid hs.len
  cases A with
  | none =>
    have hn : n = 0 := by
      rcases Nat.eq_zero_or_pos n with h | h
      · exact h
      · obtain ⟨b, o, hA, _⟩ := hs.at_ h; cases hA
    subst hn
    have hx := hs.empty
    subst hx
    go_enter Try.func42, Try.ntmps42
    go_wp2_with fail
    all_goals first | (exfalso; omega) | skip
    go_ret
    exact ⟨_, _, rfl, Sl.nil _ _ _, (by repeat (first | exact Ext.refl _ | assumption | refine Ext.al ?_ | refine Ext.dr ?_ | refine Ext.dn ?_ | (refine Ext.st ?_ ?_; · first | omega | (simp; done) | (simp; omega)) | refine Ext.trans ?_ (by assumption)))⟩
  | some a =>
    go_enter Try.func42, Try.ntmps42
    go_wp2_with (at_builtin; refine wpL_append_sl (r := rI) tyInts rfl (.tmp 5) (.tmp 6) rfl (own_empty (Nat.le_refl _) rfl) rfl rfl (hs.alloc _) (by omega) (by simp) ?_; intro v' w' cells happ; obtain ⟨A3, c3, rfl, hx3, hf3⟩ := fresh_row HL.out happ; clear happ)
    all_goals first | (exfalso; omega) | skip
    go_ret
    exact ⟨_, _, rfl, hx3, hf3⟩
theorem cloneRoutes_c (hs : Sl rRows F w A n c rs) (hb : n ≤ 1000) : Calls Try.prog 44 #[.slice A n c] w fun e w' => ∃ A' c', e = .returned (.slice A' n c') ∧ Top (fun b => F b ∧ b < w.heap.size) w' w.heap.size 44 (.slice A' n c') rs ∧ Ext w w' := by
  have hnil := fun W => Lib.run_eql_slice_nil (P := Try.prog) W 26 44 A n c 0 0 Try.underlying26
  have HL := Lib.hid hs.len
  cases A with
  | none =>
    have hn : n = 0 := by
      rcases Nat.eq_zero_or_pos n with h | h
      · exact h
      · obtain ⟨b, o, hA, _⟩ := hs.at_ h; cases hA
    subst hn
    have hx := hs.empty
    subst hx
    go_enter Try.func44, Try.ntmps44
    go_wp2_with fail
    all_goals first | (exfalso; omega) | skip
    go_ret
    exact ⟨_, _, rfl, ⟨[], ⟨rfl, .inl ⟨rfl, rfl⟩⟩, by simp⟩, (by repeat (first | exact Ext.refl _ | assumption | refine Ext.al ?_ | refine Ext.dr ?_ | refine Ext.dn ?_ | (refine Ext.st ?_ ?_; · first | omega | (simp; done) | (simp; omega)) | refine Ext.trans ?_ (by assumption)))⟩
  | some a =>
    go_enter Try.func44, Try.ntmps44
    go_wp2_with (at_builtin; refine wpL_append_sl (r := rRows) (F := fun b => F b ∧ b < w.heap.size) tyRoutes rfl (.tmp 5) (.tmp 6) rfl (own_empty (Nat.le_refl _) rfl) rfl rfl ((hs.mono (fun b hb hlt => ⟨hb, hlt⟩) : Sl rRows (fun b => F b ∧ b < w.heap.size) w (some a) n c rs).alloc _) (by omega) (by simp) ?_; intro v' w' cells happ; obtain ⟨ht, hf3⟩ := top_appended HL.out happ (fun b h => h.2); clear happ; obtain ⟨A3, c3, rfl, -⟩ := ht.shape)
    all_goals first | (exfalso; omega) | skip
    rw [HL.out] at *
    go_ret
    exact ⟨_, _, rfl, ht, hf3⟩
set_option maxRecDepth 100000 in
set_option maxHeartbeats 8000000 in
theorem refSame_c (hr : Sl rRows F w A n c rs) (hq : Sl rRows G w B m c2 qs) : Calls Try.prog 14 #[.slice A n c, .slice B m c2] w fun e w' => e = .returned (.bool (decide (rs = qs))) ∧ Ext w w' := by
  have HL := Lib.hid hr.len
  have HM := Lib.hid hq.len
  have hm1 := hr.max
  have hle1 := hr.le
  have hm2 := hq.max
  have hle2 := hq.le
  unfold maxLen at hm1 hm2
  by_cases hnm : n = m
  · subst hnm
    have HR := fun W (h : Ext w W) => hr.ext h
    have HQ := fun W (h : Ext w W) => hq.ext h
    clear hr hq
    go_enter Try.func14, Try.ntmps14
    go_wp2_with fail
    go_loopw [5] (fun i wr => ∃ k : Nat, k ≤ n ∧ i = .int .i64 k ∧ Hid (rs.take k = qs.take k) ∧ Ext w wr) (fun i _ => n - (intOf i).toNat)
    case atStart => exact ⟨0, Nat.zero_le _, rfl, Lib.hid (by simp), Ext.refl _⟩
    case round =>
      obtain ⟨k, hk, rfl, hu, he⟩ := hrel
      obtain ⟨wz, rfl⟩ : ∃ wz : World, wz = wr := ⟨_, rfl⟩
      by_cases hkn : k < n
      · obtain ⟨b, o, A1, n1, c4, r, rfl, hbl, hx, e1, hr2⟩ := (HR _ he).row hkn
        obtain ⟨b2, o2, A2, n2, c5, q, rfl, hbl2, hx2, e2, hq2⟩ := (HQ _ he).row hkn
        have e1' : wz.cell? ⟨b, o + k, none⟩ = some (.slice A1 n1 c4) := e1
        have e2' : wz.cell? ⟨b2, o2 + k, none⟩ = some (.slice A2 n2 c5) := e2
        have q3 : (k : Int) < (n : Int) := by omega
        obtain ⟨sb, hsb⟩ : ∃ sb, decide (r = q) = sb := ⟨_, rfl⟩
        have HSB := Lib.hid hsb
        have HXR := hx
        have HXQ := hx2
        have SR := fun W (h : Ext wz W) => hr2.ext h
        have SQ := fun W (h : Ext wz W) => hq2.ext h
        clear hsb e1 e2 hx hx2 hr2 hq2
        go_upto_region 6 with fail
        go_cut [26] (fun s26 wx => s26 = .bool (!sb) ∧ Ext wz wx)
        case first =>
          go_region_held3 (fun w' => Ext wz w' ∧ w'.cell? ⟨b, o + k, none⟩ = some (.slice A1 n1 c4) ∧ w'.cell? ⟨b2, o2 + k, none⟩ = some (.slice A2 n2 c5))
            (first | assumption | exact ⟨Ext.dr (Ext.refl _), e1', e2'⟩ | exact kept2 (by assumption) (by assumption))
            (first | fail | (
              go_at_call 25
              have hE := And.left (by assumption : Ext wz _ ∧ _)
              refine Calls.mono (sameIntsB (SR _ hE) (SQ _ hE) HSB.out) ?_
              rintro e w5 ⟨rfl, he5⟩
              clear hE))
          have hE5 : Ext wz w5 := And.left (by assumption : Ext wz w5 ∧ _)
          go_wp2_with fail
          go_meet
          exact ⟨rfl, hE5⟩
        case rest =>
          obtain ⟨rfl, hcw⟩ := hcut
          have hE5 := he.trans hcw
          cases sb with
          | false =>
            have HF : Hid (decide (rs = qs) = false) := Lib.hid (by
              rw [decide_eq_false_iff_not]
              rintro rfl
              have := HXR.out.symm.trans HXQ.out
              injection this with this
              have h3 := HSB.out
              rw [this] at h3
              simp at h3)
            go_wp2_with fail
            all_goals first | (exfalso; omega) | skip
            go_ret
            exact ⟨by rw [HF.out]; rfl, hE5⟩
          | true =>
            have HF : Hid (rs.take (k + 1) = qs.take (k + 1)) := Lib.hid (by rw [List.take_add_one, List.take_add_one, hu.out, HXR.out, HXQ.out, of_decide_eq_true HSB.out])
            go_wp2_with fail
            all_goals first | (exfalso; omega) | skip
            go_roundw
            case rel => exact ⟨k + 1, by omega, by go_num, HF, hE5⟩
            case measure => simp [intOf]; omega
      · obtain rfl : k = n := by omega
        have HF : Hid (decide (rs = qs) = true) := Lib.hid (by
          have := hu.out
          rw [List.take_of_length_le (by rw [HL.out]; omega), List.take_of_length_le (by rw [HM.out]; omega)] at this
          exact decide_eq_true this)
        go_wp2_with fail
        all_goals first | (exfalso; omega) | skip
        go_ret
        exact ⟨by rw [HF.out]; rfl, he⟩
  · have HF : Hid (decide (rs = qs) = false) := Lib.hid (by
      rw [decide_eq_false_iff_not]
      rintro rfl
      exact hnm (HL.out.symm.trans HM.out))
    have hn0 : ((n : Int) == (m : Int)) = false := by simp; omega
    go_enter Try.func14, Try.ntmps14
    go_wp2_with fail
    all_goals first | (exfalso; omega) | skip
    go_ret
    exact ⟨by rw [HF.out]; rfl, Ext.refl _⟩
set_option maxRecDepth 100000 in
set_option maxHeartbeats 16000000 in
theorem refCopy_c (hs : Sl rRows F w A n c rs) (hm60 : n ≤ 1000) (hr60 : ∀ r ∈ rs, r.length ≤ 1000) : Calls Try.prog 13 #[.slice A n c] w fun e w' => ∃ A' c', e = .returned (.slice A' n c') ∧ Own rRows w' w.heap.size 44 (.slice A' n c') n rs ∧ Ext w w' := by
  have HL := Lib.hid hs.len
  have H60 := Lib.hid hr60
  clear hr60
  go_enter Try.func13, Try.ntmps13
  go_wp2_with fail
  go_loopw [3, 4] (fun v i wr => ∃ k : Nat, k ≤ n ∧ i = .int .i64 k ∧ Own rRows wr w.heap.size 44 v k (rs.take k) ∧ Ext w wr) (fun _ i _ => n - (intOf i).toNat)
  case atStart => exact ⟨0, Nat.zero_le _, rfl, Own.new, Ext.refl _⟩
  case round =>
    obtain ⟨k, hk, rfl, hown, he⟩ := hrel
    obtain ⟨wz, rfl⟩ : ∃ wz : World, wz = wr := ⟨_, rfl⟩
    have hsz := he.size
    by_cases hkm : k < n
    · obtain ⟨b, o, A2, n2, c2, r, rfl, hbl, hx, e1, hr⟩ := (hs.ext he).row hkm
      have e1' : wz.cell? ⟨b, o + k, none⟩ = some (.slice A2 n2 c2) := e1
      have h2 := H60.out r (List.mem_of_getElem? hx.out)
      rw [hr.len] at h2
      have HL2 := Lib.hid hr.len
      have HX := Lib.hid hx.out
      obtain ⟨A1, c1, rfl, -⟩ := hown.shape
      clear hx e1
      go_wp2_with (first
        | (at_builtin; refine wpL_append_sl (r := rI) tyInts rfl (.tmp 12) (.tmp 16) rfl (own_empty_at (base := wz.heap.size) rfl (Nat.le_refl _) rfl) rfl rfl (hr.ext (Ext.al (Ext.refl _))) (by omega) (by simp) ?_; intro v2 w2 cells happ; obtain ⟨A3, c3, rfl, hx3, hf3⟩ := fresh_row HL2.out happ; clear happ)
        | (at_builtin; refine wpL_append_own (r := rRows) tyRoutes rfl (.tmp 11) (.tmp 18) rfl (hown.ext (Ext.al (o := .cells #[.slice A3 n2 c3] 44) hf3)) rfl rfl (Sl.laid1 (r := rRows) (F := fun b => wz.heap.size ≤ b) (cs := [.slice A3 n2 c3]) (x := r) ⟨_, _, _, rfl, hx3⟩ rfl) (fun cs x h => rRows.mono (fun b hb _ => hown.free hsz (by have := hf3.size; rcases hb with hb | hb <;> omega)) h) (by omega) (by have := hf3.size; simp; omega) ?_; intro A9 c9 w9 hown9 hg9))
      have he9 : Ext w w9 := (hown.ext (Ext.al (o := .cells #[.slice A3 n2 c3] 44) hf3)).below (Ext.trans he (Ext.al (o := .cells #[.slice A3 n2 c3] 44) hf3)) hg9 (Nat.le_refl _) (by have := hf3.size; simp; omega)
      go_roundw
      case rel => exact ⟨k + 1, by omega, by go_num, by rw [List.take_add_one, HX.out]; exact hown9, he9⟩
      case measure => simp [intOf]; omega
    · obtain rfl : k = n := by omega
      rw [List.take_of_length_le (by rw [HL.out]; omega)] at hown
      obtain ⟨A1, c1, rfl, -⟩ := hown.shape
      go_wp2_with fail
      all_goals first | (exfalso; omega) | skip
      go_ret
      exact ⟨_, _, rfl, hown, he⟩
end
end Go.Proofs.Ytmgokaancnifeaa
