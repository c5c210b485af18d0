/-
  A region that draws its order and ends in one store that hits what its own loads read: the loads may be taken first, and what is held need not hold behind that store. Plain lemmas on the model's regions; no function of the program.
-/
import Derived.Deep.RegionHeld
import Derived.StillTail
namespace Go.Proofs.Ytmgokaancnifeaa
set_option linter.unusedVariables false
set_option linter.unusedSimpArgs false
set_option linter.unusedSectionVars false
set_option linter.unnecessarySimpa false
open Go
section
variable {P : Program} {ops : Array Oper} {Q : Exit → Act → World → Prop} {md : Region.Mode} {S : World → Prop} {n : Nat}
/-- Whatever order is picked from here on; S holds behind each operation ahead of number 'n'. -/
def wpHold (P : Program) (md : Region.Mode) (ops : Array Oper) (Q : Exit → Act → World → Prop) (S : World → Prop) (n : Nat) : Nat → Array Bool → Act → World → Prop
  | 0, listed, a, w => Region.ready md ops listed = [] ∧ Q .normal a w
  | fuel + 1, listed, a, w => (Region.ready md ops listed = [] → Q .normal a w) ∧
    ∀ i ∈ Region.ready md ops listed, wpOp P ops Q i (fun a' w' => (i < n → S w') ∧ wpHold P md ops Q S n fuel (listed.setIfInBounds i true) a' w') a w
theorem wpAny_of_hold : ∀ (fuel : Nat) (listed : Array Bool) (a : Act) (w : World), wpHold P md ops Q S n fuel listed a w → wpAny P md ops Q fuel listed a w
  | 0, _, _, _, h => h
  | fuel + 1, _, _, _, h => ⟨h.1, fun i hi => wpOp_mono (fun a' w' h' => wpAny_of_hold fuel _ a' w' h'.2) (h.2 i hi)⟩
/-- An operation ahead of number 'n' that yields in every world that meets S may be taken first. -/
theorem wpHold_first {i : Nat} {oi : Oper} {v : Value} (hi : ops[i]? = some oi) (hsel : ∀ (j : Nat) (o : Oper) cs b, ops[j]? = some o → o.op ≠ .select cs b)
    (hQ : ∀ c a w, Q (.panic c) (a.put oi.dst v) w → Q (.panic c) a w) (hin : i < n) (hn : n < ops.size) (hsk : Region.sinkB md ops n = true) (hch : Region.chainB md ops n = true) (fuel : Nat) :
    ∀ (listed : Array Bool) (a : Act) (w : World), (∀ j oj, ops[j]? = some oj → j ≠ i → listed.getD j true = false → (∀ e ∈ oj.after, Region.binds md e = true → e.on ≠ i) → oi.apart ops oj = true) →
      HeadInv md ops n listed → i ∈ Region.ready md ops listed → YieldsIf P ops S oi v a → S w →
      wpHold P md ops Q S n fuel (listed.setIfInBounds i true) (a.put oi.dst v) w → wpHold P md ops Q S n (fuel + 1) listed a w := by
  induction fuel with
  | zero =>
    intro listed a w hap hinv hri hy hS h
    refine ⟨fun e => (by rw [e] at hri; cases hri), fun j hj => ?_⟩
    rcases Decidable.em (j = i) with rfl | hji
    · exact hy.wpOp hi hS ⟨fun _ => hS, h⟩
    · have hm := ready_mono hj hji
      rw [h.1] at hm
      cases hm
  | succ fuel ih =>
    intro listed a w hap hinv hri hy hS h
    have hui := (mem_ready.1 hri).1
    refine ⟨fun e => (by rw [e] at hri; cases hri), fun j hj => ?_⟩
    rcases Decidable.em (j = i) with rfl | hji
    · exact hy.wpOp hi hS ⟨fun _ => hS, h⟩
    · have hjn : j < n := by
        rcases Nat.lt_or_ge j n with hlt | hge
        · exact hlt
        · exact absurd hj (tail_waits hsk hch hn hinv _ i rfl hin hui j hge)
      obtain ⟨huj, oj, hoj, hall⟩ := mem_ready.1 hj
      have hno : ∀ e ∈ oj.after, Region.binds md e = true → e.on ≠ i := fun e he hb heq => by
        have h1 := hall e he hb
        rw [heq, getD_both hui] at h1
        cases h1
      have hstep := wpOp_putIf hoj (hap j oj hoj hji huj hno) (fun cs b => hsel i oi cs b hi) (fun cs b => hsel j oj cs b hoj) hQ hy (h.2 j (ready_mono hj hji))
      refine wpOp_mono (fun a' w' h3 => ⟨fun _ => h3.2.1 hjn, ?_⟩) hstep
      refine ih (listed.setIfInBounds j true) a' w' (fun k ok hk hki hun hnk => ?_) (hinv.set hj hjn) (ready_mono hri (Ne.symm hji)) h3.1 (h3.2.1 hjn) ?_
      · refine hap k ok hk hki ?_ hnk
        rcases Decidable.em (j = k) with rfl | hjk
        · exact huj
        · rwa [getD_set_ne true hjk] at hun
      · rw [Array.setIfInBounds_comm _ _ hji]
        exact h3.2.2
/-- Take number 'i' first; the way on bears the marks' invariant. -/
theorem wpHold_take {i : Nat} {oi : Oper} {v : Value} {fuel : Nat} {listed : Array Bool} {a : Act} {w : World} (hi : ops[i]? = some oi) (hs : Region.noSelect ops = true) (hf : Region.free md ops listed i = true)
    (hr : (Region.ready md ops listed).contains i = true) (hin : i < n) (hn : n < ops.size) (hsk : Region.sinkB md ops n = true) (hch : Region.chainB md ops n = true) (hinv : HeadInv md ops n listed)
    (hQ : ∀ c a w, Q (.panic c) (a.put oi.dst v) w → Q (.panic c) a w) (hy : YieldsIf P ops S oi v a) (hS : S w)
    (h : HeadInv md ops n (listed.setIfInBounds i true) → wpHold P md ops Q S n fuel (listed.setIfInBounds i true) (a.put oi.dst v) w) : wpHold P md ops Q S n (fuel + 1) listed a w :=
  have hm : i ∈ Region.ready md ops listed := by simpa using hr
  wpHold_first hi (Region.noSelect_spec hs) hQ hin hn hsk hch fuel listed a w (Region.free_spec hi hf) hinv hm hy hS (h (hinv.set hm hin))
/-- Only number 'i' may come up. -/
theorem wpHold_only {i : Nat} {o : Oper} {fuel : Nat} {listed : Array Bool} {a : Act} {w : World} (ho : ops[i]? = some o) (hr : Region.ready md ops listed = [i])
    (h : ∀ K : Act → World → Prop, Shut (∀ a w, (i < n → S w) → wpHold P md ops Q S n fuel (listed.setIfInBounds i true) a w → K a w) → if Region.wanted o (yielded ops a.tmps) = true then Oper.wp P o a w K Q else K (a.put o.dst undef) w) : wpHold P md ops Q S n (fuel + 1) listed a w := by
  refine ⟨fun e => (by rw [hr] at e; cases e), fun j hj => ?_⟩
  rw [hr] at hj
  simp at hj
  subst hj
  exact wpOp_step ho fun K hK => h K fun a w h1 h2 => hK a w ⟨h1, h2⟩
/-- One of two may come up. -/
theorem wpHold_two {i j : Nat} {oi oj : Oper} {fuel : Nat} {listed : Array Bool} {a : Act} {w : World} (hoi : ops[i]? = some oi) (hoj : ops[j]? = some oj) (hr : Region.ready md ops listed = [i, j])
    (h1 : ∀ K : Act → World → Prop, Shut (∀ a w, (i < n → S w) → wpHold P md ops Q S n fuel (listed.setIfInBounds i true) a w → K a w) → if Region.wanted oi (yielded ops a.tmps) = true then Oper.wp P oi a w K Q else K (a.put oi.dst undef) w)
    (h2 : ∀ K : Act → World → Prop, Shut (∀ a w, (j < n → S w) → wpHold P md ops Q S n fuel (listed.setIfInBounds j true) a w → K a w) → if Region.wanted oj (yielded ops a.tmps) = true then Oper.wp P oj a w K Q else K (a.put oj.dst undef) w) : wpHold P md ops Q S n (fuel + 1) listed a w := by
  refine ⟨fun e => (by rw [hr] at e; cases e), fun k hk => ?_⟩
  rw [hr] at hk
  simp at hk
  rcases hk with rfl | rfl
  · exact wpOp_step hoi fun K hK => h1 K fun a w h1 h2 => hK a w ⟨h1, h2⟩
  · exact wpOp_step hoj fun K hK => h2 K fun a w h1 h2 => hK a w ⟨h1, h2⟩
theorem wpHold_done {listed : Array Bool} {a : Act} {w : World} (hr : Region.ready md ops listed = []) (h : Q .normal a w) : ∀ fuel, wpHold P md ops Q S n fuel listed a w
  | 0 => ⟨hr, h⟩
  | _ + 1 => ⟨fun _ => h, by rw [hr]; simp⟩
theorem headInv_start (hn : n < ops.size) : HeadInv md ops n (Array.replicate ops.size false) :=
  ⟨by simp, fun j oj _ h => (by rw [getD_replicate_false] at h; cases h), fun t _ ht => by simp [ht]⟩
theorem wp_region_hold {id : Nat} {a : Act} {w : World} (hm : P.follows .mixedOrders = true) (hn : n < ops.size)
    (h : HeadInv .any ops n (Array.replicate ops.size false) → wpHold P .any ops Q S n ops.size (Array.replicate ops.size false) a w.drew) : (Code.region id ops true).wp P Q a w :=
  wp_region_any hm (wpAny_of_hold _ _ _ _ (h (headInv_start hn)))
end
end Go.Proofs.Ytmgokaancnifeaa
