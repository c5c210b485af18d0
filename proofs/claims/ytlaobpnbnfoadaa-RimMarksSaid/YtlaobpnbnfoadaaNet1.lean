/-
  Contracts of the document's look at a table of turns and of small tests on numbers: what each returns. Conditions: the slices' readings.
-/
import Derived.Test.YtlaobpnbnfoadaaBase
namespace Go.Proofs.Ytlaobpnbnfoadaa
set_option linter.unusedVariables false
set_option linter.unusedSimpArgs false
set_option linter.unusedSectionVars false
set_option linter.unnecessarySimpa false
open Go Go.RowKit

def WrongPost (d : Nat) (Q : Int → Prop) (w : World) (e : Ending) (w' : World) : Prop :=
  ∃ A n c err, e = .returned (.agg #[.slice A n c, .int .i64 err]) ∧ Q err ∧ (∃ ps, Sl Rd.part (fun b => w.heap.size ≤ b) w' A n c ps ∧ ps.length ≤ d) ∧ Ext w w'
def AtPost (s : ByteArray) (at_ er : Int) (w : World) (e : Ending) (w' : World) : Prop :=
  ∃ A c, e = .returned (.agg #[.slice A 1 c, .int .i64 er]) ∧ Sl Rd.part (fun b => w.heap.size ≤ b) w' A 1 c [(s, at_)] ∧ Ext w w'
set_option maxHeartbeats 1000000 in
theorem At_c (s : ByteArray) (at_ er : Int) (w : World) (hs : s.size ≤ maxLen) (ha : (Lit.int .i64 at_).wf = true) :
    Calls Try.prog 53 #[.string s, .int .i64 at_, .int .i64 er] w (AtPost s at_ er w) := by
  go_enter Try.func53, Try.ntmps53
  go_wp2_with fail
  refine bodyPost_ret (v := .agg #[.slice (some ⟨w.heap.size + 1, 0, none⟩) 1 1, .int .i64 er]) (by simp [results, Try.results53, go_sem]) rfl ?_
  refine ⟨_, _, rfl, ?_, (by repeat (first | exact Ext.refl _ | assumption | refine Ext.al ?_ | refine Ext.dr ?_ | refine Ext.dn ?_ | (refine Ext.st ?_ ?_; · first | omega | (simp; done) | (simp; omega)) | refine Ext.trans ?_ (by assumption)))⟩
  refine ⟨rfl, Nat.le_refl _, by simp [maxLen], fun _ => ⟨_, 0, rfl, by omega, by simp, fun k x hk => ?_⟩⟩
  match k, hk with
  | 0, hk =>
    simp at hk
    subst hk
    refine ⟨[.string s, .int .i64 at_], fun j u hu => ?_, rfl, hs, ha⟩
    match j, hu with
    | 0, hu => simp at hu; subst hu; simp [Rd.part]
    | 1, hu => simp at hu; subst hu; simp [Rd.part]
  | k + 1, hk => simp at hk

/-- May a cost be a weight? -/
def weightB (a : Int) : Bool := decide ((0 ≤ a ∧ a ≤ 2147483648) ∨ a = 1152921504606846976)
set_option maxHeartbeats 1000000 in
theorem refWeight_c (a : Int) (w : World) : Calls Try.prog 79 #[.int .i64 a] w fun e w' => e = .returned (.bool (weightB a)) ∧ w = w' := by
  by_cases h : a = 1152921504606846976
  · subst h
    go_enter Try.func79, Try.ntmps79
    go_wp2_with fail
    all_goals first | (exfalso; omega) | (go_ret; exact ⟨ret_bool (by decide), rfl⟩)
  · have hb : (a == 1152921504606846976) = false := by simpa using h
    have hw : weightB a = decide (0 ≤ a ∧ a ≤ 2147483648) := by simp [weightB, h]
    have hw' := Lib.hid hw
    clear hw h
    go_enter Try.func79, Try.ntmps79
    go_wp2_with fail
    all_goals first | (exfalso; omega) | (go_ret; exact ⟨ret_bool (by rw [hw'.out]; simp; omega), rfl⟩)
set_option maxHeartbeats 1000000 in
theorem costWeight_c (a : Int) (w : World) : Calls Try.prog 59 #[.int .i64 a] w fun e w' => e = .returned (.bool (weightB a)) ∧ w = w' := by
  by_cases h : a = 1152921504606846976
  · subst h
    go_enter Try.func59, Try.ntmps59
    go_wp2_with fail
    all_goals first | (exfalso; omega) | (go_ret; exact ⟨ret_bool (by decide), rfl⟩)
  · have hb : (a == 1152921504606846976) = false := by simpa using h
    have hw : weightB a = decide (0 ≤ a ∧ a ≤ 2147483648) := by simp [weightB, h]
    have hw' := Lib.hid hw
    clear hw h
    go_enter Try.func59, Try.ntmps59
    go_wp2_with fail
    all_goals first | (exfalso; omega) | (go_ret; exact ⟨ret_bool (by rw [hw'.out]; simp; omega), rfl⟩)
def coordB (x : Int) : Bool := decide (-1048576 ≤ x ∧ x ≤ 1048576)
set_option maxHeartbeats 1000000 in
theorem Coord_c (a : Int) (w : World) : Calls Try.prog 78 #[.int .i64 a] w fun e w' => e = .returned (.bool (coordB a)) ∧ w = w' := by
  go_enter Try.func78, Try.ntmps78
  go_wp2_with fail
  all_goals first | (exfalso; omega) | (go_ret; exact ⟨ret_bool (by simp [coordB]; omega), rfl⟩)
set_option maxHeartbeats 1000000 in
theorem far_c (a : Int) (w : World) : Calls Try.prog 57 #[.int .i64 a] w fun e w' => e = .returned (.bool (!coordB a)) ∧ w = w' := by
  go_enter Try.func57, Try.ntmps57
  go_wp2_with fail
  all_goals first | (exfalso; omega) | (go_ret; exact ⟨ret_bool (by rw [Bool.eq_iff_iff]; simp [coordB]; omega), rfl⟩)
set_option maxHeartbeats 1000000 in
theorem vertex_c {A0 A1 A2 : Option Addr} {n0 n1 n2 c0 c1 c2 : Nat} (a : Int) (w : World) :
    Calls Try.prog 58 #[.agg #[.slice A0 n0 c0, .slice A1 n1 c1, .slice A2 n2 c2], .int .i64 a] w fun e w' => e = .returned (.bool (decide (0 ≤ a ∧ a < n0))) ∧ Ext w w' := by
  go_enter Try.func58, Try.ntmps58
  go_wp2_with fail
  all_goals go_ret
  all_goals exact ⟨ret_bool (by simp; omega), (by repeat (first | exact Ext.refl _ | assumption | refine Ext.al ?_ | refine Ext.dr ?_ | refine Ext.dn ?_ | (refine Ext.st ?_ ?_; · first | omega | (simp; done) | (simp; omega)) | refine Ext.trans ?_ (by assumption)))⟩

/-- A table that may be. -/
structure TableOk (ins outs : Int) (costs : List Int) : Prop where
  ins_ : 0 ≤ ins ∧ ins ≤ 16
  outs_ : 0 ≤ outs ∧ outs ≤ 16
  len : (costs.length : Int) = ins * outs
  cost : ∀ c ∈ costs, weightB c = true

section
variable {F : Nat → Prop} {A : Option Addr} {n c : Nat} {costs : List Int} {w : World}
set_option maxRecDepth 100000 in
set_option maxHeartbeats 1000000 in
theorem CheckTable_c (ins outs : Int) (hs : Sl rI F w A n c costs) :
    Calls Try.prog 76 #[.agg #[.int .i64 ins, .int .i64 outs, .slice A n c]] w (WrongPost 1 (fun err => err = 0 → TableOk ins outs costs) w) := by
  have hm := hs.max
  have hl := hs.le
  unfold maxLen at hm
  by_cases hi : 0 ≤ ins ∧ ins ≤ 16
  · by_cases ho : 0 ≤ outs ∧ outs ≤ 16
    · obtain ⟨ins, rfl⟩ := Int.eq_ofNat_of_zero_le hi.1
      obtain ⟨outs, rfl⟩ := Int.eq_ofNat_of_zero_le ho.1
      have hmul : ins * outs ≤ 16 * 16 := Nat.mul_le_mul (by omega) (by omega)
      have hmul' : (ins : Int) * (outs : Int) = ((ins * outs : Nat) : Int) := by simp
      obtain ⟨t, ht⟩ : ∃ t, ins * outs = t := ⟨_, rfl⟩
      rw [ht] at hmul hmul'
      have hw : IntKind.i64.wrap ((ins : Int) * (outs : Int)) = (t : Int) := by rw [hmul']; exact IntWalk.i64_in _ (by omega)
      have HM := Lib.hid hmul'
      clear hmul' ht
      by_cases hlen : n = t
      · subst hlen
        go_enter Try.func76, Try.ntmps76
        go_wp2_with fail
        all_goals first | (exfalso; omega) | skip
        go_loop [3] (fun i => ∃ k : Nat, k ≤ n ∧ i = .int .i64 k ∧ Hid (∀ j x, j < k → costs[j]? = some x → weightB x = true)) (fun i => n - (intOf i).toNat)
        case atStart => exact ⟨0, Nat.zero_le _, rfl, fun j x hj => absurd hj (by omega)⟩
        case round =>
          obtain ⟨k, hk, rfl, hs1⟩ := hrel
          by_cases hkn : k < n
          · obtain ⟨b, o, x, rfl, hbl, hx, c0, -, -⟩ := hs.int hkn
            by_cases hwx : weightB x = true
            · go_wp2_with (go_at_call 79; refine (refWeight_c _ _).mono ?_; rintro e w' ⟨rfl, rfl⟩)
              all_goals first | (exfalso; omega) | skip
              go_round
              case rel => exact ⟨k + 1, by omega, by go_num, fun j y hj hy => by
                by_cases e : j = k
                · subst e; rw [hx.out] at hy; injection hy with hy; subst hy; exact hwx
                · exact hs1.out j y (by omega) hy⟩
              case measure => simp [intOf]; omega
            · have hwf : weightB x = false := by simpa using hwx
              clear hwx
              go_wp2_with (first | (go_at_call 79; refine (refWeight_c _ _).mono ?_; rintro e w' ⟨rfl, rfl⟩) | (go_at_call 53; refine (At_c _ _ _ _ (by decide) (WalkArith.wf_i64 (by omega))).mono ?_; rintro e w9 ⟨A9, c9, rfl, hsl9, he9⟩; obtain ⟨hc9, hf9⟩ := bcell he9; have hz9 := he9.size; (try simp only [World.size_alloc] at hz9); replace hsl9 := hsl9.mono (G := fun b => w.heap.size + 2 ≤ b) (fun b h _ => by first | omega | (simp at h; omega))))
              all_goals first | (exfalso; omega) | skip
              refine bodyPost_ret (v := .agg #[.slice A9 1 c9, .int .i64 8]) (by simp [results, Try.results76, go_sem, hc9]) rfl ⟨_, _, _, _, rfl, fun h => absurd h (by decide), ⟨_, ((hsl9.setCell (by simp) _).setCell (by simp) _).mono fun b h _ => by omega, by simp⟩, (by repeat (first | exact Ext.refl _ | assumption | refine Ext.al ?_ | refine Ext.dr ?_ | refine Ext.dn ?_ | (refine Ext.st ?_ ?_; · first | omega | (simp; done) | (simp; omega)) | refine Ext.trans ?_ (by assumption)))⟩
          · obtain rfl : k = n := by omega
            go_wp2_with fail
            all_goals first | (exfalso; omega) | skip
            refine bodyPost_ret (v := .agg #[.slice none 0 0, .int .i64 0]) (by simp [results, Try.results76, go_sem]) rfl ⟨_, _, _, _, rfl, fun _ => ⟨hi, ho, by rw [HM.out, hs.len], fun x hx => ?_⟩, ⟨[], Sl.nil _ _ _, by simp⟩, (by repeat (first | exact Ext.refl _ | assumption | refine Ext.al ?_ | refine Ext.dr ?_ | refine Ext.dn ?_ | (refine Ext.st ?_ ?_; · first | omega | (simp; done) | (simp; omega)) | refine Ext.trans ?_ (by assumption)))⟩
            obtain ⟨j, hj⟩ := List.getElem?_of_mem hx
            exact hs1.out j x (by rw [← hs.len]; exact (List.getElem?_eq_some_iff.1 hj).1) hj
      · have hb : ((n : Int) != (t : Int)) = true := by simp; omega
        go_enter Try.func76, Try.ntmps76
        go_wp2_with (go_at_call 53; refine (At_c _ _ _ _ (by decide) (by decide)).mono ?_; rintro e w9 ⟨A9, c9, rfl, hsl9, he9⟩; obtain ⟨hc9, hf9⟩ := bcell he9; have hz9 := he9.size; (try simp only [World.size_alloc] at hz9); replace hsl9 := hsl9.mono (G := fun b => w.heap.size + 2 ≤ b) (fun b h _ => by first | omega | (simp at h; omega)))
        all_goals first | (exfalso; omega) | skip
        refine bodyPost_ret (v := .agg #[.slice A9 1 c9, .int .i64 9]) (by simp [results, Try.results76, go_sem, hc9]) rfl ⟨_, _, _, _, rfl, fun h => absurd h (by decide), ⟨_, ((hsl9.setCell (by simp) _).setCell (by simp) _).mono fun b h _ => by omega, by simp⟩, (by repeat (first | exact Ext.refl _ | assumption | refine Ext.al ?_ | refine Ext.dr ?_ | refine Ext.dn ?_ | (refine Ext.st ?_ ?_; · first | omega | (simp; done) | (simp; omega)) | refine Ext.trans ?_ (by assumption)))⟩
    · go_enter Try.func76, Try.ntmps76
      go_wp2_with (go_at_call 53; refine (At_c _ _ _ _ (by decide) (by decide)).mono ?_; rintro e w9 ⟨A9, c9, rfl, hsl9, he9⟩; obtain ⟨hc9, hf9⟩ := bcell he9; have hz9 := he9.size; (try simp only [World.size_alloc] at hz9); replace hsl9 := hsl9.mono (G := fun b => w.heap.size + 2 ≤ b) (fun b h _ => by first | omega | (simp at h; omega)))
      all_goals first | (exfalso; omega) | skip
      all_goals refine bodyPost_ret (v := .agg #[.slice A9 1 c9, .int .i64 1]) (by simp [results, Try.results76, go_sem, hc9]) rfl ⟨_, _, _, _, rfl, fun h => absurd h (by decide), ⟨_, ((hsl9.setCell (by simp) _).setCell (by simp) _).mono fun b h _ => by omega, by simp⟩, (by repeat (first | exact Ext.refl _ | assumption | refine Ext.al ?_ | refine Ext.dr ?_ | refine Ext.dn ?_ | (refine Ext.st ?_ ?_; · first | omega | (simp; done) | (simp; omega)) | refine Ext.trans ?_ (by assumption)))⟩
  · go_enter Try.func76, Try.ntmps76
    go_wp2_with (go_at_call 53; refine (At_c _ _ _ _ (by decide) (by decide)).mono ?_; rintro e w9 ⟨A9, c9, rfl, hsl9, he9⟩; obtain ⟨hc9, hf9⟩ := bcell he9; have hz9 := he9.size; (try simp only [World.size_alloc] at hz9); replace hsl9 := hsl9.mono (G := fun b => w.heap.size + 2 ≤ b) (fun b h _ => by first | omega | (simp at h; omega)))
    all_goals first | (exfalso; omega) | skip
    all_goals refine bodyPost_ret (v := .agg #[.slice A9 1 c9, .int .i64 1]) (by simp [results, Try.results76, go_sem, hc9]) rfl ⟨_, _, _, _, rfl, fun h => absurd h (by decide), ⟨_, ((hsl9.setCell (by simp) _).setCell (by simp) _).mono fun b h _ => by omega, by simp⟩, (by repeat (first | exact Ext.refl _ | assumption | refine Ext.al ?_ | refine Ext.dr ?_ | refine Ext.dn ?_ | (refine Ext.st ?_ ?_; · first | omega | (simp; done) | (simp; omega)) | refine Ext.trans ?_ (by assumption)))⟩
end
end Go.Proofs.Ytlaobpnbnfoadaa
