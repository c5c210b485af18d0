/-
  Arguments of the laws on better rounds, as they come in, read as lists; each row within the reach.
-/
import Derived.Test.YtmgokaancnifeaaFrame
import Derived.Test.YtmgokaancnifeaaRows
import Derived.Test.YtmgokaancnifeaaBJob3
import Derived.WalkKit
import Derived.ProofKit
import Derived.OpenShut
import Derived.SizedLaws
namespace Go.Proofs.Ytmgokaancnifeaa
set_option linter.unusedVariables false
set_option linter.unusedSimpArgs false
set_option linter.unusedSectionVars false
set_option linter.unnecessarySimpa false
open Go Go.RowKit Go.ChangeShapes Go.WideShapes Go.ChangeAt Go.Joins Go.Deep

theorem ownK : ownKnob Try.prog.godebug = none := by kernel_rfl
theorem kidsK : Kids Try.prog (· < Try.prog.types.size) := kids_rows (by kernel_rfl) (by kernel_rfl)
theorem fullK : ∀ t e, t < Try.prog.types.size → Try.prog.underlying t = some (.slice e) → 0 < Try.prog.cellsOf e := slices_full_of Try.prog (by kernel_rfl)
theorem bytesInt : Try.prog.bytesOf 3 = 8 := by kernel_rfl
/-- A reading, and what else is known of what is read. -/
def rBd {α : Type} (r : Rd α) (p : α → Prop) : Rd α where
  size := r.size
  rel F w cs x := r.rel F w cs x ∧ p x
  len h := r.len h.1
  one h := r.one h.1
  keep hk h := ⟨r.keep hk h.1, h.2⟩
  mono hk h := ⟨r.mono hk h.1, h.2⟩
theorem Sl.unbd {α : Type} {r : Rd α} {p : α → Prop} {F : Nat → Prop} {w : World} {A : Option Addr} {n c : Nat} {xs : List α} (h : Sl (rBd r p) F w A n c xs) : Sl r F w A n c xs ∧ ∀ x ∈ xs, p x := by
  refine ⟨⟨h.len, h.le, h.max, fun hn => ?_⟩, fun x hx => ?_⟩
  · obtain ⟨b, o, h1, h2, h3, h4⟩ := h.at_ hn
    exact ⟨b, o, h1, h2, h3, fun k x hx => by obtain ⟨cs, h5, h6⟩ := h4 k x hx; exact ⟨cs, h5, h6.1⟩⟩
  · obtain ⟨k, hk⟩ := List.mem_iff_getElem?.1 hx
    have hn : 0 < n := by
      have := (List.getElem?_eq_some_iff.1 hk).1
      rw [h.len] at this
      omega
    obtain ⟨b, o, h1, h2, h3, h4⟩ := h.at_ hn
    obtain ⟨cs, h5, h6⟩ := h4 k x hk
    exact h6.2
section
variable {H : Type} {enc : TypeId × Value → H} {P : Program} {w : World} {base : Nat} {sp : Nat → Bool} {held : Bool}
theorem weights_all {e : TypeId} {y : DataW H} {m : Nat} : ∀ {elems : List (DataW H)}, y ∈ elems → m ∈ y.weights P e → m ∈ DataW.weightsAll P e elems
  | [], h, _ => by cases h
  | x :: elems, h, hm => by
    rw [DataW.weightsAll, List.mem_append]
    rcases List.mem_cons.1 h with rfl | h
    · exact .inl hm
    · exact .inr (weights_all h hm)
/-- 'Sl.of_trod', with something known of each element's datum. -/
theorem Sl.of_trodQ {α : Type} {r : Rd α} {F : Nat → Prop} (hF : ∀ b, F b) {t e : TypeId} (ht : P.underlying t = some (.slice e)) (hc : P.cellsOf e = r.size) (hpos : 0 < r.size) (Q : DataW H → Prop)
    (he : ∀ n cs x, DataW.trod enc P w base sp held n e cs = some x → Q x.1 → ∃ a, r.rel F w cs a) {fuel : Nat} {cs : List Value} {x : DataW H × List MemPlace} (h : DataW.trod enc P w base sp held fuel t cs = some x)
    (hQ : ∀ elems spare, x.1 = .slice elems spare → ∀ y ∈ elems, Q y) : ∃ A n c xs, cs = [.slice A n c] ∧ Sl r F w A n c xs := by
  rcases open_slice ht h with ⟨hcs, hx⟩ | ⟨a, len, cap, m, n, D, Pl, hcs, hb, hl, hm, hmm, hx, hel⟩
  · exact ⟨none, 0, 0, [], hcs, Sl.nil _ _ _⟩
  · have hlm : len ≤ m := by rw [hmm]; split <;> omega
    have hel' : ∀ i, i < len → ∃ y : List Value × α, w.cells? base (a.add (i * P.cellsOf e)) (P.cellsOf e) = some y.1 ∧ r.rel F w y.1 y.2 := fun i hi => by
      obtain ⟨cs', h1, h2⟩ := hel i (by omega)
      obtain ⟨z, hz⟩ := he _ _ _ h2 (hQ _ _ (by rw [hx]) (D i) (List.mem_map.2 ⟨i, List.mem_range.2 hi, rfl⟩))
      exact ⟨(cs', z), h1, hz⟩
    rcases Nat.eq_zero_or_pos len with h0 | h0
    · subst h0
      exact ⟨some a, 0, cap, [], hcs, rfl, by omega, hm, fun h => absurd h (by omega)⟩
    · obtain ⟨y0, -, -⟩ := hel' 0 h0
      haveI : Inhabited (List Value × α) := ⟨y0⟩
      obtain ⟨f, hf⟩ := choose_lt hel'
      obtain ⟨b, o, spot⟩ := a
      have hsz : ∀ i, i < len → (f i).1.length = r.size ∧ ∀ j, j < r.size → w.cell? ((Addr.mk b o spot).add (i * r.size + j)) = (f i).1[j]? := fun i hi => by
        obtain ⟨h1, h2⟩ := hf i hi
        rw [hc] at h1
        obtain ⟨-, h3, h4⟩ := World.cells?_some h1
        exact ⟨h3, fun j hj => by rw [← h4 j hj, add_add]⟩
      have hspot : spot = none := by
        obtain ⟨h1, h2⟩ := hsz 0 h0
        have h3 := h2 0 hpos
        rw [List.getElem?_eq_getElem (by omega)] at h3
        simpa [Addr.add] using World.cell?_spot h3
      subst hspot
      have hlt : b < w.heap.size := by
        obtain ⟨h1, h2⟩ := hsz 0 h0
        have h3 := h2 0 hpos
        rw [List.getElem?_eq_getElem (by omega)] at h3
        have := cell_lt h3
        rwa [add_block] at this
      refine ⟨some ⟨b, o, none⟩, len, cap, (List.range len).map fun i => (f i).2, hcs, by simp, hl, hm, fun _ => ⟨b, o, rfl, hF b, hlt, fun k x hk => ?_⟩⟩
      rw [List.getElem?_map] at hk
      by_cases hkl : k < len
      · simp [hkl] at hk
        subst hk
        obtain ⟨h1, h2⟩ := hsz k hkl
        refine ⟨(f k).1, fun j u hu => ?_, (hf k hkl).2⟩
        have hj : j < r.size := by
          rw [← h1]; exact (List.getElem?_eq_some_iff.1 hu).1
        rw [← hu, ← h2 j hj, Addr.add_lit]
      · simp [hkl] at hk
theorem rel_pair {k0 k1 : IntKind} {F : Nat → Prop} {t : TypeId} {f0 f1 : Field} (hs : P.underlying t = some (.struct #[f0, f1])) (hone : oneCellFields P #[f0, f1] = true) (hC : P.cellsOf t = 2)
    (t0 : P.underlying f0.type = some (.int k0)) (t1 : P.underlying f1.type = some (.int k1)) :
    ∀ n cs (x : DataW H × List MemPlace), DataW.trod enc P w base sp held n t cs = some x → ∃ a, (Rd.pair k0 k1).rel F w cs a := fun n cs x h => by
  obtain ⟨y0, y1, n, hx, hl, h0, h1⟩ := trod_struct2 hs h
  obtain ⟨o0, c0⟩ := hone_of hone 0 f0 rfl
  obtain ⟨o1, c1⟩ := hone_of hone 1 f1 rfl
  rw [hC] at hl
  match cs, hl with
  | [v0, v1], _ =>
    replace h0 : DataW.trod enc P w base sp held n f0.type [v0] = some y0 := by simpa [o0, c0] using h0
    replace h1 : DataW.trod enc P w base sp held n f1.type [v1] = some y1 := by simpa [o1, c1] using h1
    obtain ⟨a0, e0, -, w0⟩ := DataW.trod_int t0 h0
    obtain ⟨a1, e1, -, w1⟩ := DataW.trod_int t1 h1
    exact ⟨(a0, a1), by simp at e0 e1; simp [e0, e1], w0, w1⟩
end
section
variable {H : Type} {enc : TypeId × Value → H} {w : World} {base : Nat} {sp : Nat → Bool} {held : Bool}
set_option maxRecDepth 100000 in
theorem routes_opens {r : Reach} {b0 : Nat} {v : Value} {d : DataW H} {p : List MemPlace} (hv : Value.okWide Try.prog w r b0 26 v) (h : DataW.Trod enc Try.prog w base sp held 26 v d p)
    (hsz : ∀ m ∈ d.weights Try.prog 26, m ≤ reachBytes) :
    ∃ A n c xs, v = .slice A n c ∧ Sl rT (fun _ => True) w A n c xs ∧ ∀ x ∈ xs, x.length ≤ 17592186044416 := by
  obtain ⟨fuel, hf⟩ := h
  obtain ⟨a, n0, c0, rfl⟩ := okWide_slice Try.underlying26 hv
  have hQ : ∀ elems spare, d = .slice elems spare → ∀ y ∈ elems, ∀ es s2, y = .slice es s2 → es.length ≤ 17592186044416 := by
    rintro elems spare rfl y hy es s2 rfl
    have h1 : (es.length + s2.length) * Try.prog.bytesOf 3 ∈ (DataW.slice es s2).weights Try.prog 44 := by
      rw [DataW.weights, Try.underlying44]
      exact List.mem_cons_self ..
    have h2 : (es.length + s2.length) * Try.prog.bytesOf 3 ∈ (DataW.slice elems spare).weights Try.prog 26 := by
      rw [DataW.weights, Try.underlying26]
      exact List.mem_cons_of_mem _ (List.mem_append_left _ (weights_all hy h1))
    have h3 := hsz _ h2
    rw [bytesInt] at h3
    unfold reachBytes at h3
    omega
  obtain ⟨A, n, c, xs, e0, s0⟩ := Sl.of_trodQ (r := rBd rT fun x : List Int => x.length ≤ 17592186044416) (F := fun _ => True) (fun _ => trivial) Try.underlying26 (by kernel_rfl) (by decide) (fun y => ∀ es s2, y = .slice es s2 → es.length ≤ 17592186044416)
    (fun n cs x hx hq => by
      obtain ⟨A, n2, c, ys, hcs, hs⟩ := Sl.of_trod (r := Rd.int .i64) (F := fun _ => True) (fun _ => trivial) Try.underlying44 (by kernel_rfl) (by decide) (rel_int Try.underlying3) hx
      refine ⟨ys, ⟨A, n2, c, hcs, hs⟩, ?_⟩
      show ys.length ≤ _
      rw [hs.len]
      rcases open_slice Try.underlying44 hx with ⟨h1, h2⟩ | ⟨a, len, cap, m, k, D, Pl, h1, -, -, -, -, h2, -⟩
      · rw [hcs] at h1
        injection h1 with h1
        injection h1 with q1 q2
        omega
      · rw [hcs] at h1
        injection h1 with h1
        injection h1 with q1 q2
        have h3 := hq _ _ (by rw [h2])
        rw [List.length_map, List.length_range] at h3
        omega) hf (fun elems spare he y hy => hQ elems spare he y hy)
  simp [Value.cells] at e0
  obtain ⟨s1, s2⟩ := s0.unbd
  exact ⟨A, n, c, xs, by simp [e0], s1, s2⟩
set_option maxRecDepth 100000 in
theorem table_opens {r : Reach} {b0 : Nat} {v : Value} {d : DataW H} {p : List MemPlace} (hv : Value.okWide Try.prog w r b0 25 v) (h : DataW.Trod enc Try.prog w base sp held 25 v d p) :
    ∃ A n c xs, v = .slice A n c ∧ Sl rT (fun _ => True) w A n c xs := by
  obtain ⟨fuel, hf⟩ := h
  obtain ⟨a, n0, c0, rfl⟩ := okWide_slice Try.underlying25 hv
  obtain ⟨A, n, c, xs, e0, s0⟩ := Sl.of_trod (r := rT) (F := fun _ => True) (fun _ => trivial) Try.underlying25 (by kernel_rfl) (by decide)
    (rel_slice fun n cs x hh => Sl.of_trod (r := Rd.int .i64) (F := fun _ => True) (fun _ => trivial) Try.underlying47 (by kernel_rfl) (by decide) (rel_int Try.underlying2) hh) hf
  simp [Value.cells] at e0
  exact ⟨A, n, c, xs, by simp [e0], s0⟩
set_option maxRecDepth 100000 in
theorem job_opens {r : Reach} {b0 : Nat} {v : Value} {d : DataW H} {p : List MemPlace} (hv : Value.okWide Try.prog w r b0 24 v) (h : DataW.Trod enc Try.prog w base sp held 24 v d p) :
    ∃ dep cap lim A n c stops, v = .agg #[.int .i64 dep, .int .i64 cap, .int .i64 lim, .slice A n c] ∧ (Lit.int .i64 dep).wf = true ∧ (Lit.int .i64 cap).wf = true ∧ (Lit.int .i64 lim).wf = true ∧ Sl rP (fun _ => True) w A n c stops := by
  obtain ⟨v0, v1, v2, v3, y0, y1, y2, y3, n, rfl, -, -, h0, h1, h2, h3⟩ := open_agg4 Try.underlying24 (by kernel_rfl) (by kernel_rfl) hv h
  obtain ⟨a0, e0, -, w0⟩ := DataW.trod_int Try.underlying3 h0
  obtain ⟨a1, e1, -, w1⟩ := DataW.trod_int Try.underlying2 h1
  obtain ⟨a2, e2, -, w2⟩ := DataW.trod_int Try.underlying2 h2
  obtain ⟨A, m, c, stops, e3, s3⟩ := Sl.of_trod (r := rP) (F := fun _ => True) (fun _ => trivial) Try.underlying22 (by kernel_rfl) (by decide)
    (rel_pair Try.underlying58 (by kernel_rfl) (by kernel_rfl) Try.underlying3 Try.underlying2) h3
  simp only [List.cons.injEq, and_true] at e0 e1 e2 e3
  exact ⟨a0, a1, a2, A, m, c, stops, by rw [e0, e1, e2, e3], w0, w1, w2, s3⟩
end
end Go.Proofs.Ytmgokaancnifeaa
