/-
  Contracts of slices.Grow (of nothing), slices.Concat at []int, better.fresh. Conditions: the readings; few and short rows.
-/
import Derived.Test.YtmgokaancnifeaaB12
import Derived.Lib.AppendZeros
namespace Go.Proofs.Ytmgokaancnifeaa
set_option linter.unusedVariables false
set_option linter.unusedSimpArgs false
set_option linter.unusedSectionVars false
set_option linter.unnecessarySimpa false
open Go Go.RowKit

theorem own_grow {w : World} {base : Nat} {e : TypeId} {q cap : Nat} {cs : Array Value} (hb : base ≤ w.heap.size) (hs : cs.size = cap) (hm : cap ≤ maxLen) : Own rI ((w.drewN q).alloc (.cells cs e)) base e (.slice (some ⟨w.heap.size, 0, none⟩) 0 cap) 0 [] :=
  ⟨rfl, [], ⟨by simp, .inr ⟨w.heap.size, cap, cs, rfl, hb, heap_alloc_new (w.drewN q) _, Nat.zero_le _, hm, by show cs.size = cap * 1; rw [hs, Nat.mul_one], by simp⟩⟩, by simp, by simp⟩
theorem Top.made {G : Nat → Prop} {w : World} {base g n : Nat} {e : TypeId} (h : Blk w g e (Array.replicate n (.slice none 0 0))) (hb : base ≤ g) (hm : n ≤ maxLen) : Top G w base e (.slice (some ⟨g, 0, none⟩) n n) (List.replicate n []) := by
  refine ⟨List.replicate n (.slice none 0 0), ⟨by simp, .inr ⟨g, n, _, by simp, hb, h, by simp, hm, by simp, by simp⟩⟩, fun k f r hf hr => ?_⟩
  rw [List.getElem?_replicate] at hf hr
  split at hf
  · rename_i h1
    rw [if_pos h1] at hr
    injection hf with hf
    injection hr with hr
    subst hf hr
    exact ⟨none, 0, 0, rfl, Sl.nil _ _ _⟩
  · cases hf
section
variable {F G : Nat → Prop} {A B : Option Addr} {n m c c2 : Nat} {xs : List Int} {rs qs : List (List Int)} {r : List Int} {w : World}
set_option maxRecDepth 100000 in
set_option maxHeartbeats 4000000 in
theorem grow_c (hn : n ≤ 10000000) : Calls Try.prog 52 #[.slice none 0 0, .int .i64 n] w fun e w' => ∃ v, e = .returned v ∧ Own rI w' w.heap.size 3 v 0 [] ∧ Ext w w' := by
  rcases Nat.eq_zero_or_pos n with h0 | h0
  · subst h0
    go_enter Try.func52, Try.ntmps52
    go_wp2_with fail
    all_goals first | (exfalso; omega) | skip
    go_ret
    exact ⟨_, rfl, Own.new, Ext.refl _⟩
  · obtain ⟨i, hi, hz, hsz, hby⟩ := tyInts.info
    have hr := fun ty => Lib.run_append_nil_zeros (P := Try.prog) w 44 3 ty 3 i (.int .i64 0) .i64 .i64 tyInts.und Try.underlying3 hi hz n h0 (by omega) (by omega) (by rw [hby]; omega)
    have hg1 := grownCap_ge w n 0 3
    have hg2 := grownCap_le_maxLen w n 0 3 (by unfold maxLen; omega)
    have hsz2 : (Builtin.zeroCells (Value.int .i64 0).cells n ++ Builtin.zeroCells (Value.int .i64 0).cells (grownCap w n 0 3 - n)).size = grownCap w n 0 3 := by
      rw [Array.size_append, size_zeroCells, size_zeroCells]
      show n * 1 + _ * 1 = _
      omega
    have hown := own_grow (w := w) (base := w.heap.size) (e := 3) (q := 1) (Nat.le_refl _) hsz2 hg2
    generalize grownCap w n 0 3 = gc at *
    generalize Builtin.zeroCells (Value.int .i64 0).cells n ++ Builtin.zeroCells (Value.int .i64 0).cells (gc - n) = cs at *
    have HOWN := Lib.hid hown
    have HR := Lib.hid hr
    unfold maxLen at hg2
    clear hown hr hi hz hsz hby hsz2
    go_enter Try.func52, Try.ntmps52
    go_wp2_with (at_builtin; refine Lib.wpList_append_run _ rfl _ _ _ _ rfl _ _ rfl rfl _ _ (HR.out _) ?_)
    all_goals first | (exfalso; omega) | skip
    go_ret
    exact ⟨_, rfl, HOWN.out, Ext.al (Ext.dr (Ext.refl _))⟩
set_option maxRecDepth 100000 in
set_option maxHeartbeats 8000000 in
theorem concat_c (hs : Sl rRows F w A n c rs) (hm : n ≤ 1000) (hr : ∀ r ∈ rs, r.length ≤ 1000) : Calls Try.prog 45 #[.slice A n c] w fun e w' => ∃ v, e = .returned v ∧ Own rI w' w.heap.size 3 v rs.flatten.length rs.flatten ∧ Ext w w' := by
  have HL := Lib.hid hs.len
  have HR := Lib.hid hr
  have HS := Lib.hid hs
  have hmx := hs.max
  have hle := hs.le
  unfold maxLen at hmx
  clear hr hs
  go_enter Try.func45, Try.ntmps45
  go_wp2_with fail
  go_loopw [3, 11] (fun sv i wr => ∃ k s : Nat, k ≤ n ∧ i = .int .i64 k ∧ sv = .int .i64 s ∧ s ≤ 1000 * k ∧ w = wr) (fun _ i _ => n - (intOf i).toNat)
  case atStart => exact ⟨0, 0, Nat.zero_le _, rfl, rfl, Nat.zero_le _, rfl⟩
  case round =>
    obtain ⟨k, s, hk, rfl, rfl, hsk, rfl⟩ := hrel
    by_cases hkn : k < n
    · obtain ⟨b, o, A2, n2, c3, r, rfl, hbl, hx, e1, hr2⟩ := HS.out.row hkn
      have e1' : w.cell? ⟨b, o + k, none⟩ = some (.slice A2 n2 c3) := e1
      have hn2 : n2 ≤ 1000 := by rw [← hr2.len]; exact HR.out r (List.mem_of_getElem? hx.out)
      have hm2 := hr2.max
      have hle2 := hr2.le
      unfold maxLen at hm2
      clear hx e1 hr2
      have a1 : IntKind.i64.wrap ((s : Int) + (n2 : Int)) = (s : Int) + (n2 : Int) := IntWalk.i64_in _ (by omega)
      go_wp2_with fail
      all_goals first | (exfalso; omega) | skip
      go_roundw
      case rel => exact ⟨k + 1, s + n2, by omega, by go_num, by go_num, by omega, trivial⟩
      case measure => simp [intOf]; omega
    · obtain rfl : k = n := by omega
      go_wp2_with fail
      all_goals first | (exfalso; omega) | skip
      refine (grow_c (n := s) (by omega)).mono ?_
      rintro e w1 ⟨v, rfl, hown, he1⟩
      go_wp2_with fail
      go_loopw [6, 27] (fun v i wr => ∃ j L : Nat, j ≤ k ∧ i = .int .i64 j ∧ L ≤ 1000 * j ∧ Own rI wr w.heap.size 3 v L (rs.take j).flatten ∧ Ext w wr) (fun _ i _ => k - (intOf i).toNat)
      case atStart => exact ⟨0, 0, Nat.zero_le _, rfl, Nat.zero_le _, by simpa using hown, he1⟩
      case round =>
        clear hown he1
        obtain ⟨j, L, hj, rfl, hLj, hown, he⟩ := hrel
        obtain ⟨A1, c1, hv, -⟩ := hown.shape
        subst hv
        obtain ⟨wz, rfl⟩ : ∃ wz : World, wz = wr := ⟨_, rfl⟩
        have hsz := he.size
        by_cases hjk : j < k
        · obtain ⟨b, o, A2, n2, c3, r, rfl, hbl, hx, e1, hr2⟩ := HS.out.row hjk
          have e1' : wz.cell? ⟨b, o + j, none⟩ = some (.slice A2 n2 c3) := (he.cell (p := ⟨b, o + j, none⟩) (cell_lt2 e1)).trans e1
          have hn2 : n2 ≤ 1000 := by rw [← hr2.len]; exact HR.out r (List.mem_of_getElem? hx.out)
          have HR2 := Lib.hid (hr2.ext he)
          have hst : Hid ((rs.take (j + 1)).flatten = (rs.take j).flatten ++ r) := Lib.hid (by rw [List.take_add_one, hx.out]; simp)
          clear hx e1 hr2
          go_wp2_with (at_builtin; refine wpL_append_own (r := rI) tyInts rfl (.tmp 31) (.tmp 32) rfl hown rfl rfl HR2.out (fun _ _ h => h) (by omega) (by omega) ?_; intro A3 c4 w4 hown4 hg4)
          have he4 : Ext w w4 := hown.below he hg4 (Nat.le_refl _) hsz
          have hown5 : Own rI w4 w.heap.size 3 (.slice A3 (L + n2) c4) (L + n2) (rs.take (j + 1)).flatten := by rw [hst.out]; exact hown4
          clear hown hown4
          go_roundw
          case rel => exact ⟨j + 1, L + n2, by omega, by go_num, by omega, hown5, he4⟩
          case measure => simp [intOf]; omega
        · obtain rfl : j = k := by omega
          rw [List.take_of_length_le (by rw [HL.out]; omega)] at hown
          have hl := hown.len
          subst hl
          go_wp2_with fail
          all_goals first | (exfalso; omega) | skip
          go_ret
          exact ⟨_, rfl, hown, he⟩
theorem fresh_next {rs : List (List Int)} {k n : Nat} {r : List Int} (h : rs[k]? = some r) (hk : k < n) : (rs.take k ++ List.replicate (n - k) []).set k r = rs.take (k + 1) ++ List.replicate (n - (k + 1)) [] := by
  have hl := (List.getElem?_eq_some_iff.1 h).1
  have e : List.replicate (n - k) ([] : List Int) = [] :: List.replicate (n - (k + 1)) [] := by
    rw [show n - k = (n - (k + 1)) + 1 by omega, List.replicate_succ]
  rw [e, List.take_add_one, h, List.set_append_right _ _ (by simp; omega)]
  simp [Nat.min_eq_left (Nat.le_of_lt hl)]
set_option maxRecDepth 100000 in
set_option maxHeartbeats 8000000 in
theorem fresh_c (hs : Sl rRows F w A n c rs) (hm : n ≤ 1000) (hr : ∀ r ∈ rs, r.length ≤ 1000) : Calls Try.prog 32 #[.slice A n c] w fun e w' => ∃ A' c', e = .returned (.slice A' n c') ∧ Sl rRows (fun b => w.heap.size ≤ b) w' A' n c' rs ∧ Ext w w' := by
  have HL := Lib.hid hs.len
  have HR := Lib.hid hr
  have HS := Lib.hid hs
  have hmx := hs.max
  have hle := hs.le
  unfold maxLen at hmx
  clear hr hs
  go_enter Try.func32, Try.ntmps32
  go_wp2_with (at_make; refine wpL_make tyRoutes rfl (.tmp 7) (.tmp 7) rfl n .i64 .i64 (by simp [Act.eval]) (by simp [Act.eval]) (by omega) ?_; intro w1 hb1 he1 hz1)
  have hT : Top (fun b => w.heap.size ≤ b) w1 w.heap.size 44 (.slice (some ⟨w.heap.size, 0, none⟩) n n) (rs.take 0 ++ List.replicate (n - 0) []) := by
    refine Top.made ?_ (Nat.le_refl _) (by unfold maxLen; omega)
    simpa [madeCells_one, Value.cells] using hb1
  clear hb1 hz1
  go_loopw [11] (fun i wr => ∃ k : Nat, k ≤ n ∧ i = .int .i64 k ∧ Top (fun b => w.heap.size ≤ b) wr w.heap.size 44 (.slice (some ⟨w.heap.size, 0, none⟩) n n) (rs.take k ++ List.replicate (n - k) []) ∧ Ext w wr) (fun i _ => n - (intOf i).toNat)
  case atStart => exact ⟨0, Nat.zero_le _, rfl, hT, he1⟩
  case round =>
    clear hT he1
    obtain ⟨k, hk, rfl, hT, he⟩ := hrel
    obtain ⟨wz, rfl⟩ : ∃ wz : World, wz = wr := ⟨_, rfl⟩
    have hsz := he.size
    by_cases hkn : k < n
    · obtain ⟨b, o, A2, n2, c3, r, rfl, hbl, hx, e1, hr2⟩ := HS.out.row hkn
      have e1' : wz.cell? ⟨b, o + k, none⟩ = some (.slice A2 n2 c3) := (he.cell (p := ⟨b, o + k, none⟩) (cell_lt2 e1)).trans e1
      have HX := Lib.hid hx.out
      have HR2 := Lib.hid (hr2.ext he)
      have hrl : r.length ≤ 1000 := HR.out r (List.mem_of_getElem? hx.out)
      have hsl : Sl rRows (fun _ => True) (wz.alloc (.cells #[.slice A2 n2 c3] 44)) (some ⟨wz.heap.size, 0, none⟩) 1 1 [r] :=
        (Sl.laid1 (r := rRows) (F := fun _ => True) (cs := [.slice A2 n2 c3]) (x := r) ⟨_, _, _, rfl, (hr2.ext he).mono fun _ _ _ => trivial⟩ rfl).mono fun _ _ _ => trivial
      have hlen : (rs.take k ++ List.replicate (n - k) ([] : List Int)).length = n := by
        rw [List.length_append, List.length_take, List.length_replicate, HL.out]
        omega
      have HT := Lib.hid hT
      clear hx e1 hr2 hT
      go_wp2_with fail
      refine (concat_c hsl (by omega) (fun x hx => by rw [List.mem_singleton] at hx; rw [hx]; exact hrl)).mono ?_
      rintro e w2 ⟨v, rfl, hown, he2⟩
      have hfl : [r].flatten = r := by simp
      rw [hfl] at hown
      obtain ⟨A3, c4, hv, -⟩ := hown.shape
      subst hv
      have he2' : Ext wz w2 := Ext.trans (by repeat (first | exact Ext.refl _ | assumption | refine Ext.al ?_ | refine Ext.dr ?_ | refine Ext.dn ?_ | (refine Ext.st ?_ ?_; · first | omega | (simp; done) | (simp; omega)) | refine Ext.trans ?_ (by assumption))) he2
      have hT2 := HT.out.ext he2'
      obtain ⟨g, cap, A4, n4, c5, r4, hv4, hg0, hg1, -, x1, f1, -⟩ := hT2.cell (k := k) (by rw [hlen]; exact hkn)
      rw [hlen] at hv4
      injection hv4 with hv4 z1 z2
      injection hv4 with hv4
      injection hv4 with hv4 z3 z4
      subst hv4
      clear z1 z2
      have hsz2 := he2.size
      rw [World.size_alloc] at hsz2
      have hT3 := hT2.store (k := k) (hown.sl.mono (fun b hb _ => by rw [World.size_alloc] at hb; exact ⟨by omega, by omega⟩))
      rw [fresh_next HX.out hkn] at hT3
      have hE3 := Ext.st (p := ⟨w.heap.size, k, none⟩) (u := .slice A3 r.length c4) (Nat.le_refl _) (he.trans he2')
      clear HT hT2 hown hfl hlen hsl hsz2 e1' hsz
      go_wp2_with fail
      go_roundw
      case rel => exact ⟨k + 1, by omega, by go_num, hT3, hE3⟩
      case measure => simp [intOf]; omega
    · obtain rfl : k = n := by omega
      rw [List.take_of_length_le (by rw [HL.out]; omega), Nat.sub_self, List.replicate_zero, List.append_nil] at hT
      have hsl := hT.slF (F := fun b => w.heap.size ≤ b) (fun _ h => h) (fun _ h => h)
      clear hT
      go_wp2_with fail
      all_goals first | (exfalso; omega) | skip
      go_ret
      exact ⟨_, _, rfl, hsl, he⟩
end
end Go.Proofs.Ytmgokaancnifeaa
