/-
  JobParts returns true at every argument: the tied card. No condition but what the card ties: package-level variables of the library as their own text lays them.
-/
import Derived.Test.YtmgokaancnifeaaDoorDoorC
import Derived.Test.YtmgokaancnifeaaDoorJob14
import Derived.Test.YtmgokaancnifeaaDoorOpens2
namespace Go.Proofs.YtmgokaancnifeaaDoor.jobParts
set_option linter.unusedVariables false
set_option linter.unusedSimpArgs false
set_option linter.unusedSectionVars false
set_option linter.unnecessarySimpa false
open Go Go.RowKit Go.ChangeShapes Go.WideShapes Go.ChangeAt Go.Joins

theorem wf_u8j {x : Int} (h : (Lit.int .u8 x).wf = true) : 0 ≤ x ∧ x ≤ 255 := by
  simp [Lit.wf, IntKind.min, IntKind.max, IntKind.signed, IntKind.bits] at h
  omega
set_option maxRecDepth 100000 in
theorem lifted (os : Os) (started : os.Started) (H : Type) (enc : TypeId × Value → H) :
    ReturnsInHanded {} Tryd.checked os 11 .any (fun w args => (Rows.jobPartsSpec.pre enc Tryd.prog Tryd.f11 [] false w args ∧ laidMetH Tryd.prog laidJ w) ∧ sizedMet enc Tryd.prog Tryd.f11 (OpenSpec.ofChange Rows.jobPartsSpec) false w args)
      (Rows.jobPartsSpec.post enc Tryd.prog Tryd.f11 false true false false) := by
  refine returnsInHanded_of_change_and (C := Tryd.checked) (X := fun w _ => laidMetH Tryd.prog laidJ w) (fun _ _ _ hh h => h.of_heap hh) ownK started (by kernel_rfl) Tryd.func11
    (ChangeSpec.witness_shaped (enc := enc) (C := Tryd.checked) (os := os) (X := fun w _ => laidMetH Tryd.prog laidJ w) false (World.doorLaid Tryd.prog 31 os) #[.agg #[.int .i64 0, .int .i64 0, .int .i64 0, .slice none 0 0], .slice none 0 0, .slice none 0 0, .int .u8 0] 8 rfl (doorShaped os _) (by kernel_rfl) (by kernel_rfl) (by kernel_rfl) (doorJ os _)) ?_
  intro W base args ds gs before hval0 hW _ _ hL _
  have hval : ∀ (j : Nat) t v, Tryd.f11.params[j]? = some t → args[j]? = some v → Value.okWide Tryd.prog W .any base t v := hval0
  have hW' := hW
  obtain ⟨p, q, hA0, hV, rfl, hfz, hnd⟩ := hW
  have hA : DataW.TrodAll enc Tryd.prog W 0 (fun _ => true) true Tryd.f11.params.toList args.toList ds p := hA0
  rw [Tryd.params11] at hA hval
  obtain ⟨v0, vs0, d0, ds0, p0, q0, hargs, rfl, rfl, h0, r0⟩ := trodAll_cons hA
  obtain ⟨v1, vs1, d1, ds1, p1, q1, rfl, rfl, rfl, h1, r1⟩ := trodAll_cons r0
  obtain ⟨v2, vs2, d2, ds2, p2, q2, rfl, rfl, rfl, h2, r2⟩ := trodAll_cons r1
  obtain ⟨v3, vs3, d3, ds3, p3, q3, rfl, rfl, rfl, h3, r3⟩ := trodAll_cons r2
  obtain ⟨rfl, rfl, rfl⟩ := trodAll_nil r3
  obtain rfl : args = #[v0, v1, v2, v3] := by cases args; simp_all
  obtain ⟨rfl, rfl⟩ := trodVars_none hV
  obtain ⟨dep, cap, lim, A0, n0, c0, stops, rfl, wdep, wcap, wlim, sstops⟩ := job_opens (hval 0 24 v0 rfl rfl) h0
  obtain ⟨A1, n1, c1, d, rfl, sd⟩ := table_opens (hval 1 43 v1 rfl rfl) h1
  obtain ⟨A2, n2, c2, route, rfl, sroute⟩ := ints_opens (hval 2 39 v2 rfl rfl) h2
  obtain ⟨at_, rfl, rfl, rfl, hat_⟩ := open_int Tryd.underlying5 (hval 3 5 v3 rfl rfl) h3
  clear hA0 hval0
  have hg := laidJ_gives hL
  refine (jobparts_c dep cap lim at_ (wf_u8j hat_) sstops sd sroute hg).mono fun e W' ⟨he, hx⟩ => ?_
  subst he
  exact ⟨_, rfl, post_true kidsK fullK (by rw [Tryd.params11]; decide) rfl Tryd.underlying4 (by kernel_rfl) ⟨rfl, rfl, rfl⟩ hW' hx⟩

theorem said : Rows.JobPartsSaid :=
  OpenClaim.holds_of_wide 11 Tryd.f11 rfl rfl rfl rfl rfl rfl rfl ⟨rfl, rfl, rfl, rfl, rfl⟩ rfl rfl rfl rfl rfl (by kernel_rfl) Tryd.func11 (by kernel_rfl)
    (of_decide_eq_true (by kernel_rfl)) (by unfold Func.isWrapper; first | (rw [if_pos (by decide +kernel)]; kernel_rfl) | (rw [if_neg (by decide +kernel)]; exact ⟨rfl, rfl⟩))
    (fun os started H enc _ => lifted os started H enc)
/-- No parameter wants a stand-in; the program's own looks. -/
theorem plain (f : FuncId) (fn : Func) (hf : Tryd.pinned.checked.prog.funcNamed "roundsman/roundsmanlaw24.JobParts" = some f) (hfn : Tryd.pinned.checked.prog.funcs[f]? = some fn) :
    true = Tryd.pinned.checked.prog.looks [] ∧ ∀ (j : Nat) t, fn.params[j]? = some t → Tryd.pinned.checked.prog.wantsStandIn t = false := by
  obtain rfl : f = 11 := Option.some.inj ((show Tryd.prog.funcNamed "roundsman/roundsmanlaw24.JobParts" = some 11 by kernel_rfl).symm.trans hf) |>.symm
  obtain rfl : fn = Tryd.f11 := (Option.some.inj (Tryd.func11.symm.trans hfn)).symm
  refine ⟨by kernel_rfl, fun j t ht => ?_⟩
  rw [Tryd.params11] at ht
  have hk : (#[24, 43, 39, 5] : Array TypeId).all (fun t => !Tryd.pinned.checked.prog.wantsStandIn t) = true := by kernel_rfl
  have := Array.all_eq_true_iff_forall_mem.1 hk t (Array.mem_of_getElem? ht)
  simpa using this
theorem proved : Rows.JobPartsCardSaid :=
  Claim7.holds_tied_plain_at .later [] _ _ _ _ said (fun _ h => by cases h) (by kernel_rfl) (fun _ h => by cases h) jobParts_row_tie rfl ⟨rfl, rfl⟩ (by kernel_rfl) rfl plain (by kernel_rfl)
#print axioms proved
end Go.Proofs.YtmgokaancnifeaaDoor.jobParts
