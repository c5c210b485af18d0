/-
  The frame of a law that only reads its arguments: slices of whatever element opened into the readings 'Sl', the arguments read again behind the call, the result 'true'. No function of the program.
-/
import Derived.Test.YtmgokaancnifeaaMem
import Derived.ReadAgain
import Derived.Below
import Derived.ChangeSame
import Derived.Lib.SmallJoins
namespace Go.Proofs.Ytmgokaancnifeaa
set_option linter.unusedVariables false
set_option linter.unusedSimpArgs false
set_option linter.unusedSectionVars false
set_option linter.unnecessarySimpa false
open Go Go.RowKit Go.ChangeShapes Go.WideShapes Go.Deep Go.Joins

section
variable {H : Type} {enc : TypeId × Value → H} {P : Program} {w w' : World} {base : Nat} {sp : Nat → Bool} {held : Bool}
theorem sameAt_ext (h : Ext w w') (p : MemPlace) (hp : p.block < w.heap.size) : w.sameAt w' p := by
  cases p with
  | cell b off => exact h.cell (p := ⟨b, off, none⟩) hp
  | map b => exact h.block b hp
theorem trod_ext (h : Ext w w') {t : TypeId} {v : Value} {d : DataW H} {ps : List MemPlace} (ht : DataW.Trod enc P w base sp held t v d ps) (hp : ∀ p ∈ ps, p.block < w.heap.size) : DataW.Trod enc P w' base sp held t v d ps := by
  obtain ⟨n, hn⟩ := ht
  exact ⟨n, DataW.trod_carry n _ _ _ hn fun p hpp => sameAt_ext h p (hp p hpp)⟩
theorem trodAll_ext (h : Ext w w') : ∀ {ts : List TypeId} {vs : List Value} {ds : List (DataW H)} {ps : List MemPlace}, DataW.TrodAll enc P w base sp held ts vs ds ps → (∀ p ∈ ps, p.block < w.heap.size) → DataW.TrodAll enc P w' base sp held ts vs ds ps
  | [], [], [], _, ht, _ => ht
  | _ :: _, _ :: _, _ :: _, _, ⟨p, q, h1, h2, e⟩, hp => ⟨p, q, trod_ext h h1 (fun x hx => hp x (by rw [e]; exact List.mem_append_left _ hx)), trodAll_ext h h2 (fun x hx => hp x (by rw [e]; exact List.mem_append_right _ hx)), e⟩

/-- The row's last step, of a law that writes nothing of what came in and tells 'true'. -/
theorem post_true {f : Func} {s : ChangeSpec} {W W' : World} {args : Array Value} {ds : List (DataW H)} {before : List MemPlace} {fresh handsOn again : Bool} {tb : TypeId}
    (K : Kids P (· < P.types.size)) (hz : ∀ t e, t < P.types.size → P.underlying t = some (.slice e) → 0 < P.cellsOf e) (hts : ∀ t ∈ f.params.toList, t < P.types.size)
    (hvars : s.vars = []) (hb : P.underlying tb = some .bool) (hr : f.resultTypes = #[tb])
    (hfn : (s.fn H (ds ++ [])).results = [.lit (.bool true)] ∧ (s.fn H (ds ++ [])).args = ds ∧ (s.fn H (ds ++ [])).vars = [])
    (hW : DataW.Whole enc P f.params.toList s.vars false W args.toList ds [] before) (he : Ext W W') : s.post enc P f false fresh handsOn again W args (.bool true) W' := by
  have hW' := hW
  obtain ⟨p, q, hA0, hV, rfl, hfz, hnd⟩ := hW
  rw [hvars] at hV
  obtain ⟨-, rfl⟩ := trodVars_none hV
  have hlt : ∀ x ∈ p, x.block < W.heap.size := DataW.TrodAll.lt hA0
  simp only [List.append_nil] at hW'
  have hold : ∀ x ∈ p, (fun b => decide (b < W.heap.size)) x.block = true := fun x hx => by simpa using hlt x hx
  have hargs : ∀ sp : Nat → Bool, (∀ x ∈ p, sp x.block = true) → DataW.TrodAll enc P W' 0 sp true f.params.toList args.toList ds p := fun sp hsp =>
    trodAll_ext he (DataW.TrodAll.respare K hz hts hA0 hsp) hlt
  have hres : ∀ (b : Nat) (sp : Nat → Bool) (hd : Bool), DataW.TrodAll enc P W' b sp hd f.resultTypes.toList ((Value.bool true).resultList f.resultTypes.size) [.lit (.bool true)] [] := fun b sp hd => by
    rw [hr]; exact trodAll_cons_mk (shut_bool hb _) trodAll_mk0
  refine ⟨ds, [], p, [], p, [], hW', by rw [hfn.1]; exact hres _ _ _, by rw [hfn.2.1]; exact hargs _ hold, by rw [hvars, hfn.2.2]; rfl, World.keptBut_mono (fun x hx => ⟨hx, ?_⟩) (he.frame (· ∈ p)), fun _ => ?_⟩
  · exact .inr (.inl hx)
  · refine ⟨ok_one hr rfl (okWide_bool_mk hb _), _, [], ([] ++ p) ++ [], ⟨[] ++ p, [], trodAll_append (hargs _ (fun _ _ => rfl)) (hres _ _ _), by rw [hvars]; rfl, rfl, ?_, ?_⟩, ?_⟩
    · intro b off hp
      have hin : MemPlace.cell b off ∈ p := by simpa using hp
      rw [he.frozen (hlt _ hin)]
      exact hfz b off (by simpa using hin)
    · intro ha; cases ha
    · intro x hx _; simpa using hx

theorem cell_lt {w : World} {a : Addr} {v : Value} (h : w.cell? a = some v) : a.block < w.heap.size := by
  rcases Nat.lt_or_ge a.block w.heap.size with hlt | hge
  · exact hlt
  · unfold World.cell? at h; rw [Array.getElem?_eq_none hge] at h; cases h
theorem add_block (a : Addr) (n : Nat) : (a.add n).block = a.block := by unfold Addr.add; split <;> rfl
/-- A slice whose elements read. -/
theorem Sl.of_trod {α : Type} {r : Rd α} {F : Nat → Prop} (hF : ∀ b, F b) {t e : TypeId} (ht : P.underlying t = some (.slice e)) (hc : P.cellsOf e = r.size) (hpos : 0 < r.size)
    (he : ∀ n cs x, DataW.trod enc P w base sp held n e cs = some x → ∃ a, r.rel F w cs a) {fuel : Nat} {cs : List Value} {x : DataW H × List MemPlace} (h : DataW.trod enc P w base sp held fuel t cs = some x) :
    ∃ A n c xs, cs = [.slice A n c] ∧ Sl r F w A n c xs := by
  rcases open_slice ht h with ⟨hcs, hx⟩ | ⟨a, len, cap, m, n, D, Pl, hcs, hb, hl, hm, hmm, hx, hel⟩
  · exact ⟨none, 0, 0, [], hcs, Sl.nil _ _ _⟩
  · have hlm : len ≤ m := by rw [hmm]; split <;> omega
    have hel' : ∀ i, i < len → ∃ y : List Value × α, w.cells? base (a.add (i * P.cellsOf e)) (P.cellsOf e) = some y.1 ∧ r.rel F w y.1 y.2 := fun i hi => by
      obtain ⟨cs', h1, h2⟩ := hel i (by omega)
      obtain ⟨z, hz⟩ := he _ _ _ h2
      exact ⟨(cs', z), h1, hz⟩
    rcases Nat.eq_zero_or_pos len with h0 | h0
    · subst h0
      exact ⟨some a, 0, cap, [], hcs, rfl, by omega, hm, fun h => absurd h (by omega)⟩
    · obtain ⟨y0, -, -⟩ := hel' 0 h0
      haveI : Inhabited (List Value × α) := ⟨y0⟩
      obtain ⟨f, hf⟩ := choose_lt hel'
      obtain ⟨b, o, spot⟩ := a
      have hsz : ∀ i, i < len → (f i).1.length = r.size ∧ ∀ j, j < r.size → w.cell? ((Addr.mk b o spot).add (i * r.size + j)) = (f i).1[j]? := fun i hi => by
        obtain ⟨h1, h2⟩ := hf i hi
        rw [hc] at h1
        obtain ⟨-, h3, h4⟩ := World.cells?_some h1
        exact ⟨h3, fun j hj => by rw [← h4 j hj, add_add]⟩
      have hspot : spot = none := by
        obtain ⟨h1, h2⟩ := hsz 0 h0
        have h3 := h2 0 hpos
        rw [List.getElem?_eq_getElem (by omega)] at h3
        simpa [Addr.add] using World.cell?_spot h3
      subst hspot
      have hlt : b < w.heap.size := by
        obtain ⟨h1, h2⟩ := hsz 0 h0
        have h3 := h2 0 hpos
        rw [List.getElem?_eq_getElem (by omega)] at h3
        have := cell_lt h3
        rwa [add_block] at this
      refine ⟨some ⟨b, o, none⟩, len, cap, (List.range len).map fun i => (f i).2, hcs, by simp, hl, hm, fun _ => ⟨b, o, rfl, hF b, hlt, fun k x hk => ?_⟩⟩
      rw [List.getElem?_map] at hk
      by_cases hkl : k < len
      · simp [hkl] at hk
        subst hk
        obtain ⟨h1, h2⟩ := hsz k hkl
        refine ⟨(f k).1, fun j u hu => ?_, (hf k hkl).2⟩
        have hj : j < r.size := by
          rw [← h1]; exact (List.getElem?_eq_some_iff.1 hu).1
        rw [← hu, ← h2 j hj, Addr.add_lit]
      · simp [hkl] at hk
theorem rel_int {k : IntKind} {F : Nat → Prop} {t : TypeId} (ht : P.underlying t = some (.int k)) : ∀ n cs (x : DataW H × List MemPlace), DataW.trod enc P w base sp held n t cs = some x → ∃ a, (Rd.int k).rel F w cs a := fun n cs x h => by
  obtain ⟨a, rfl, -, hw⟩ := DataW.trod_int ht h
  exact ⟨a, rfl, hw⟩
theorem rel_slice {α : Type} {r : Rd α} {F : Nat → Prop} {t : TypeId} (h : ∀ n cs (x : DataW H × List MemPlace), DataW.trod enc P w base sp held n t cs = some x → ∃ A n c xs, cs = [.slice A n c] ∧ Sl r F w A n c xs) :
    ∀ n cs (x : DataW H × List MemPlace), DataW.trod enc P w base sp held n t cs = some x → ∃ a, (Rd.slice r).rel F w cs a := fun n cs x hx => by
  obtain ⟨A, n, c, xs, rfl, hs⟩ := h n cs x hx
  exact ⟨xs, A, n, c, rfl, hs⟩
/-- A struct of three one-cell fields, off its cells. -/
theorem cells3 {t : TypeId} {f0 f1 f2 : Field} (hs : P.underlying t = some (.struct #[f0, f1, f2])) (hone : oneCellFields P #[f0, f1, f2] = true) (hC : P.cellsOf t = 3) {n : Nat} {cs : List Value} {x : DataW H × List MemPlace}
    (h : DataW.trod enc P w base sp held n t cs = some x) :
    ∃ v0 v1 v2 y0 y1 y2 n, cs = [v0, v1, v2] ∧ DataW.trod enc P w base sp held n f0.type [v0] = some y0 ∧ DataW.trod enc P w base sp held n f1.type [v1] = some y1 ∧ DataW.trod enc P w base sp held n f2.type [v2] = some y2 := by
  obtain ⟨y0, y1, y2, n, hx, hl, h0, h1, h2⟩ := trod_struct3 hs h
  obtain ⟨o0, k0⟩ := hone_of hone 0 f0 rfl
  obtain ⟨o1, k1⟩ := hone_of hone 1 f1 rfl
  obtain ⟨o2, k2⟩ := hone_of hone 2 f2 rfl
  rw [hC] at hl
  match cs, hl with
  | [v0, v1, v2], _ => exact ⟨v0, v1, v2, y0, y1, y2, n, rfl, by simpa [o0, k0] using h0, by simpa [o1, k1] using h1, by simpa [o2, k2] using h2⟩
theorem rel_tri {k0 k1 k2 : IntKind} {F : Nat → Prop} {t : TypeId} {f0 f1 f2 : Field} (hs : P.underlying t = some (.struct #[f0, f1, f2])) (hone : oneCellFields P #[f0, f1, f2] = true) (hC : P.cellsOf t = 3)
    (t0 : P.underlying f0.type = some (.int k0)) (t1 : P.underlying f1.type = some (.int k1)) (t2 : P.underlying f2.type = some (.int k2)) :
    ∀ n cs (x : DataW H × List MemPlace), DataW.trod enc P w base sp held n t cs = some x → ∃ a, (Rd.tri k0 k1 k2).rel F w cs a := fun n cs x h => by
  obtain ⟨v0, v1, v2, y0, y1, y2, n, rfl, h0, h1, h2⟩ := cells3 hs hone hC h
  obtain ⟨a0, e0, -, w0⟩ := DataW.trod_int t0 h0
  obtain ⟨a1, e1, -, w1⟩ := DataW.trod_int t1 h1
  obtain ⟨a2, e2, -, w2⟩ := DataW.trod_int t2 h2
  exact ⟨(a0, a1, a2), by simp at e0 e1 e2; simp [e0, e1, e2], w0, w1, w2⟩
theorem rel_table {F : Nat → Prop} (hF : ∀ b, F b) {t u : TypeId} {f0 f1 f2 : Field} (hs : P.underlying t = some (.struct #[f0, f1, f2])) (hone : oneCellFields P #[f0, f1, f2] = true) (hC : P.cellsOf t = 3)
    (t0 : P.underlying f0.type = some (.int .i64)) (t1 : P.underlying f1.type = some (.int .i64)) (t2 : P.underlying f2.type = some (.slice u)) (hu : P.underlying u = some (.int .i64)) (cu : P.cellsOf u = 1) :
    ∀ n cs (x : DataW H × List MemPlace), DataW.trod enc P w base sp held n t cs = some x → ∃ a, Rd.table.rel F w cs a := fun n cs x h => by
  obtain ⟨v0, v1, v2, y0, y1, y2, n, rfl, h0, h1, h2⟩ := cells3 hs hone hC h
  obtain ⟨a0, e0, -, w0⟩ := DataW.trod_int t0 h0
  obtain ⟨a1, e1, -, w1⟩ := DataW.trod_int t1 h1
  obtain ⟨A, m, c, zs, e2, hsl⟩ := Sl.of_trod (r := Rd.int .i64) hF t2 cu (by decide) (rel_int hu) h2
  exact ⟨(a0, a1, zs), A, m, c, by simp at e0 e1 e2; simp [e0, e1, e2], w0, w1, hsl⟩
end
end Go.Proofs.Ytmgokaancnifeaa
