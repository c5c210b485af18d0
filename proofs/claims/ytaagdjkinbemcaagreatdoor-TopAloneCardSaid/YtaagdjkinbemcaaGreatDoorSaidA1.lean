/-
  TopAlone returns true at every argument: the tied card. No condition but what the card ties: package-level variables of the library as their own text lays them.
-/
import Derived.Test.YtaagdjkinbemcaaGreatDoorTDoor
import Derived.Test.YtaagdjkinbemcaaGreatDoorWi9
namespace Go.Proofs.YtaagdjkinbemcaaGreatDoor.topAlone
set_option linter.unusedVariables false
set_option linter.unusedSimpArgs false
set_option linter.unusedSectionVars false
set_option linter.unnecessarySimpa false
open Go Go.RowKit Go.ChangeShapes Go.WideShapes Go.ChangeAt Go.Joins

set_option maxRecDepth 100000 in
theorem lifted (os : Os) (started : os.Started) (H : Type) (enc : TypeId × Value → H) :
    ReturnsInHanded {} Tryz.checked os 3 .any (fun w args => (Rows.topAloneSpec.pre enc Tryz.prog Tryz.f3 [] false w args ∧ laidMetH Tryz.prog laidZ w) ∧ sizedMet enc Tryz.prog Tryz.f3 (OpenSpec.ofChange Rows.topAloneSpec) false w args)
      (Rows.topAloneSpec.post enc Tryz.prog Tryz.f3 false true false false) := by
  refine returnsInHanded_of_change_and (C := Tryz.checked) (X := fun w _ => laidMetH Tryz.prog laidZ w) (fun _ _ _ hh h => h.of_heap hh) ownK started (by kernel_rfl) Tryz.func3
    (ChangeSpec.witness_shaped (enc := enc) (C := Tryz.checked) (os := os) (X := fun w _ => laidMetH Tryz.prog laidZ w) false (doorZ os) #[.agg #[.slice none 0 0, .slice none 0 0, .slice none 0 0], .agg #[.slice none 0 0], .slice none 0 0, .agg #[.int .i64 0, .int .i64 0, .int .i64 0, .slice none 0 0]] 8 rfl (doorZ_shaped os _) (by kernel_rfl) (by kernel_rfl) (by kernel_rfl) (doorZ_laid os _)) ?_
  intro W base args ds gs before hval0 hW _ _ hL _
  have hval : ∀ (j : Nat) t v, Tryz.f3.params[j]? = some t → args[j]? = some v → Value.okWide Tryz.prog W .any base t v := hval0
  have hW' := hW
  obtain ⟨p, q, hA0, hV, rfl, hfz, hnd⟩ := hW
  have hA : DataW.TrodAll enc Tryz.prog W 0 (fun _ => true) true Tryz.f3.params.toList args.toList ds p := hA0
  rw [Tryz.params3] at hA hval
  obtain ⟨v0, vs0, d0, ds0, p0, q0, hargs, rfl, rfl, h0, r0⟩ := trodAll_cons hA
  obtain ⟨v1, vs1, d1, ds1, p1, q1, rfl, rfl, rfl, h1, r1⟩ := trodAll_cons r0
  obtain ⟨v2, vs2, d2, ds2, p2, q2, rfl, rfl, rfl, h2, r2⟩ := trodAll_cons r1
  obtain ⟨v3, vs3, d3, ds3, p3, q3, rfl, rfl, rfl, h3, r3⟩ := trodAll_cons r2
  obtain ⟨rfl, rfl, rfl⟩ := trodAll_nil r3
  obtain rfl : args = #[v0, v1, v2, v3] := by cases args; simp_all
  obtain ⟨rfl, rfl⟩ := trodVars_none hV
  obtain ⟨u0, u1, u2, A0, n0, K0, A1, n1, K1, A2, n2, K2, N, rfl, i0, i1, i2, Z⟩ := Eva.netZ_opens (hval 0 26 v0 rfl rfl) h0
  obtain ⟨u, A, n, K, ps, rfl, hn, i3, hs⟩ := Eva.partZ_opens (hval 1 29 v1 rfl rfl) h1
  obtain ⟨Al, nl, Kl, ls, hnl, il, hl⟩ := Eva.batchesZ_opens (hval 2 30 v2 rfl rfl) h2
  obtain ⟨dep, cap, lim, us, As, ns, Ks, st, rfl, i5, hj⟩ := Eva.jobZ_opens (hval 3 33 v3 rfl rfl) h3
  clear hA0 hval0
  refine (Eva.alone_c (Eva.handleZ hL) i0 i1 i2 Z hn i3 hs hnl il hl i5 hj).mono fun e W' ⟨he, hx⟩ => ?_
  subst he
  exact ⟨_, rfl, post_true kidsK fullK (by rw [Tryz.params3]; decide) rfl Tryz.underlying4 (by kernel_rfl) ⟨rfl, rfl, rfl⟩ hW' hx⟩

end Go.Proofs.YtaagdjkinbemcaaGreatDoor.topAlone
