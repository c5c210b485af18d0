/-
  Contracts of ref28.CopyRoutes (rows all the call's own), ref28.turned. Conditions: the readings; few and short rows.
-/
import Derived.Test.YtmgokaancnifeaaB8
import Derived.Test.YtmgokaancnifeaaB9
namespace Go.Proofs.Ytmgokaancnifeaa
set_option linter.unusedVariables false
set_option linter.unusedSimpArgs false
set_option linter.unusedSectionVars false
set_option linter.unnecessarySimpa false
open Go Go.RowKit

theorem ext_own {w w' : World} {e : TypeId} {cs : Array Value} (hgr : (w.alloc (.cells cs e)).grownBy w' (Value.slice (some ⟨w.heap.size, 0, none⟩) 0 0).ownBlock) : Ext w w' :=
  Below.grown (Below.alloc (Below.refl _ _) (Nat.le_refl _) _) hgr (by simp) fun k hk => by
    injection hk with hk
    simp [← hk]
section
variable {F G : Nat → Prop} {A B : Option Addr} {n m c c2 : Nat} {xs : List Int} {rs qs : List (List Int)} {w : World}
set_option maxRecDepth 100000 in
set_option maxHeartbeats 16000000 in
theorem refCopyM_c (hs : Sl rRows F w A n c rs) (hm60 : n ≤ 1000) (hr60 : ∀ r ∈ rs, r.length ≤ 1000) : Calls Try.prog 13 #[.slice A n c] w fun e w' => ∃ v fs, e = .returned v ∧ Mat w' w.heap.size 44 3 v fs rs ∧ Ext w w' := by
  have HL := Lib.hid hs.len
  have H60 := Lib.hid hr60
  clear hr60
  go_enter Try.func13, Try.ntmps13
  go_wp2_with fail
  go_loopw [3, 4] (fun v i wr => ∃ (k : Nat) (fs : List Value), k ≤ n ∧ i = .int .i64 k ∧ Mat wr w.heap.size 44 3 v fs (rs.take k) ∧ Ext w wr) (fun _ i _ => n - (intOf i).toNat)
  case atStart => exact ⟨0, [], Nat.zero_le _, rfl, Mat.new, Ext.refl _⟩
  case round =>
    obtain ⟨k, fs, hk, rfl, hmat, he⟩ := hrel
    obtain ⟨wz, rfl⟩ : ∃ wz : World, wz = wr := ⟨_, rfl⟩
    have hsz := he.size
    have hlt : (rs.take k).length = k := by rw [List.length_take, HL.out]; omega
    have HLT := Lib.hid hlt
    by_cases hkm : k < n
    · obtain ⟨b, o, A2, n2, c2, r, rfl, hbl, hx, e1, hr⟩ := (hs.ext he).row hkm
      have e1' : wz.cell? ⟨b, o + k, none⟩ = some (.slice A2 n2 c2) := e1
      have h2 := H60.out r (List.mem_of_getElem? hx.out)
      rw [hr.len] at h2
      have HL2 := Lib.hid hr.len
      have HX := Lib.hid hx.out
      obtain ⟨A1, c1, hv, -⟩ := hmat.top.shape
      rw [hlt] at hv
      subst hv
      have HO : ∀ W, Ext wz W → W.ownsRow w.heap.size 44 1 (.slice A1 k c1) k fs := fun W h => by have := (hmat.ext h).own; rwa [HLT.out] at this
      have HM := Lib.hid hmat
      clear hx e1 hlt hmat
      go_wp2_with (first
        | (at_builtin; refine wpL_append_own (r := rI) tyInts rfl (.tmp 12) (.tmp 16) rfl (Own.laid0 (base := wz.heap.size) rfl (Nat.le_refl _) rfl) rfl rfl (hr.ext (Ext.al (Ext.refl _))) (fun cs x h => h) (by omega) (by simp) ?_; intro A3 c3 w2 hown2 hg2; have hf2 := ext_own hg2; simp only [Nat.zero_add, List.nil_append] at hown2 ⊢)
        | (at_builtin; refine wpL_append1 tyRoutes rfl (.tmp 11) (.tmp 18) rfl rfl (HO _ hf2) #[.slice A3 n2 c3] rfl rfl (by simp [Value.oneCell']) (by omega) (by have := hf2.size; omega) ?_; intro g9 c9 w9 hown9 hgr9 hat9 hlt9))
      have he9 : Ext w w9 := below_own (Ext.trans he hf2) (HO _ hf2) hgr9 (Nat.le_refl _) (by have := hf2.size; omega)
      have HP : Mat w9 w.heap.size 44 3 (.slice (some ⟨g9, 0, none⟩) (k + 1) c9) (fs ++ [.slice A3 n2 c3]) (rs.take (k + 1)) := by
        rw [List.take_add_one, HX]
        exact HM.out.push hf2 (by rw [HL2.out]; exact hown2) hsz (by rw [HLT.out]; exact hown9) hgr9 (fun a ha => by injection ha with ha; subst ha; exact hat9)
      clear HM HO hown9 hgr9 hat9
      go_roundw
      case rel => exact ⟨k + 1, _, by omega, by go_num, HP, he9⟩
      case measure => simp [intOf]; omega
    · obtain rfl : k = n := by omega
      rw [List.take_of_length_le (by rw [HL.out]; omega)] at hmat
      go_wp2_with fail
      all_goals first | (exfalso; omega) | skip
      go_ret
      exact ⟨_, _, rfl, hmat, he⟩
end
end Go.Proofs.Ytmgokaancnifeaa
