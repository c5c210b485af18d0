/-
A part of the proof of TopTurned: lemmas that the last text joins. No condition.
-/
import Derived.Test.YtbbmelmllcaopaaGreatDoorPh
namespace Go.Proofs.YtbbmelmllcaopaaGreatDoor
set_option linter.unusedVariables false
set_option linter.unusedSimpArgs false
set_option linter.unusedSectionVars false
set_option linter.unnecessarySimpa false
open Go Go.RowKit
theorem flat_len {α : Type} {f : Nat → List α} {s : Nat} (hf : ∀ k, (f k).length = s) : ∀ n, ((List.range n).flatMap f).length = n * s
 | 0 => by simp
 | n + 1 => by rw [List.range_succ, List.flatMap_append, List.length_append, flat_len hf n, Nat.succ_mul]; simp [hf]
theorem flat_get {α : Type} {f : Nat → List α} {s k j : Nat} (hf : ∀ k, (f k).length = s) (hj : j < s) : ∀ n, k < n → ((List.range n).flatMap f)[k * s + j]? = (f k)[j]?
 | 0, h => absurd h (by omega)
 | n + 1, h => by
  have hl := flat_len hf n
  rw [List.range_succ, List.flatMap_append]
  by_cases e : k = n
  ·subst e
   rw [List.getElem?_append_right (by omega), hl, Nat.add_sub_cancel_left]
   simp
  ·have hk : k < n := by omega
   have hm : (k + 1) * s ≤ n * s := Nat.mul_le_mul_right _ hk
   rw [Nat.succ_mul] at hm
   rw [List.getElem?_append_left (by omega)]
   exact flat_get hf hj n hk
def swapA (x : Tri) : Tri := (x.2.1, x.1, x.2.2)
def transT (t : Tab) : Tab := (t.2.1, t.1, transL t)
def NetD.rev (N : NetD) : NetD := ⟨N.vs, N.xa.map swapA, N.ts.map transT⟩
theorem transL_len (t : Tab) : (transL t).length = t.2.1.toNat * t.1.toNat := flat_len (fun k => by simp) _
theorem transL_get (t : Tab) {i o : Nat} (hi : i < t.1.toNat) (ho : o < t.2.1.toNat) : (transL t)[o * t.1.toNat + i]? = some ((t.2.2[i * t.2.1.toNat + o]?).getD 0) := by
 unfold transL
 rw [flat_get (s := t.1.toNat) (fun k => by simp) hi _ ho]
 simp [hi]
theorem tab_in {t : Tab} (h : TableOk t.1 t.2.1 t.2.2) {i o : Nat} (hi : i < t.1.toNat) (ho : o < t.2.1.toNat) : ∃ c, t.2.2[i * t.2.1.toNat + o]? = some c := by
 have hl : t.2.2.length = t.1.toNat * t.2.1.toNat := by
  have h1 := h.len
  have e1 : t.1 = ((t.1.toNat : Nat) : Int) := by have := h.ins_.1; omega
  have e2 : t.2.1 = ((t.2.1.toNat : Nat) : Int) := by have := h.outs_.1; omega
  rw [e1, e2, ← Int.natCast_mul] at h1
  simpa using Int.ofNat.inj h1
 have hm : (i + 1) * t.2.1.toNat ≤ t.1.toNat * t.2.1.toNat := Nat.mul_le_mul_right _ hi
 rw [Nat.succ_mul] at hm
 exact ⟨_, List.getElem?_eq_getElem (by omega)⟩
theorem transT_ok {t : Tab} (h : TableOk t.1 t.2.1 t.2.2) : TableOk (transT t).1 (transT t).2.1 (transT t).2.2 := by
 refine ⟨h.outs_, h.ins_, ?_, fun c hc => ?_⟩
 ·show ((transL t).length : Int) = t.2.1 * t.1
  rw [transL_len, Int.natCast_mul]
  have := h.outs_.1
  have := h.ins_.1
  rw [Int.toNat_of_nonneg (by omega), Int.toNat_of_nonneg (by omega)]
 ·have hc' : c ∈ transL t := hc
  unfold transL at hc'
  simp only [List.mem_flatMap, List.mem_map, List.mem_range] at hc'
  obtain ⟨k, hk, i, hi, rfl⟩ := hc'
  obtain ⟨c, hc⟩ := tab_in h hi hk
  rw [hc]
  exact h.cost c (List.mem_of_getElem? hc)
section
variable {N : NetD}
theorem rev_cnt (N : NetD) (i : Nat) : ((N.xa.map swapA).countP fun a => toOf' a == (i : Int)) = (N.xa.countP fun a => frOf a == (i : Int)) ∧ ((N.xa.map swapA).countP fun a => frOf a == (i : Int)) = (N.xa.countP fun a => toOf' a == (i : Int)) := by
 rw [List.countP_map, List.countP_map]
 exact ⟨rfl, rfl⟩
theorem rev_ok (ok : N.Ok) : N.rev.Ok := by
 refine ⟨ok.nv, by show (N.xa.map swapA).length ≤ _; rw [List.length_map]; exact ok.na, by show (N.ts.map transT).length ≤ _; rw [List.length_map]; exact ok.nt, fun t ht => ?_, fun v hv => ?_, fun a ha => ?_, fun i v t hv ht => ?_⟩
 ·obtain ⟨t', ht', rfl⟩ := List.mem_map.1 ht
  exact transT_ok (ok.types_ t' ht')
 ·obtain ⟨h1, h2, h3, h4⟩ := ok.verts_ v hv
  exact ⟨h1, h2, h3, by show _ < (((N.ts.map transT).length : Nat) : Int); rw [List.length_map]; exact h4⟩
 ·obtain ⟨a', ha', rfl⟩ := List.mem_map.1 ha
  obtain ⟨h1, h2, h3⟩ := ok.arcs_ a' ha'
  exact ⟨h2, h1, h3⟩
 ·have ht' : (N.ts.map transT)[v.2.2.toNat]? = some t := ht
  rw [List.getElem?_map] at ht'
  cases hx : N.ts[v.2.2.toNat]? with
  | none => rw [hx] at ht'; cases ht'
  | some t0 =>
   rw [hx] at ht'
   obtain rfl := Option.some.inj ht'
   obtain ⟨d1, d2, d3, d4⟩ := ok.deg i v t0 hv hx
   obtain ⟨c1, c2⟩ := rev_cnt N i
   show ((N.xa.map swapA).countP fun a => toOf' a == (i : Int)) ≤ 16 ∧ ((N.xa.map swapA).countP fun a => frOf a == (i : Int)) ≤ 16 ∧ (t0.2.1 : Int) = (((N.xa.map swapA).countP fun a => toOf' a == (i : Int) : Nat) : Int) ∧ (t0.1 : Int) = (((N.xa.map swapA).countP fun a => frOf a == (i : Int) : Nat) : Int)
   rw [c1, c2]
   exact ⟨d2, d1, d4, d3⟩
theorem rev_na (N : NetD) : N.rev.na = N.na := by show (N.xa.map swapA).length = _; rw [List.length_map]; rfl
theorem rev_arc {a : Nat} (ha : a < N.na) : N.rev.arc a = swapA (N.arc a) := by
 unfold NetD.arc
 show ((N.xa.map swapA)[a]?).getD _ = _
 rw [List.getElem?_map, List.getElem?_eq_getElem (show a < N.xa.length from ha)]
 rfl
theorem rev_hit (N : NetD) (p : Bool) (v j : Nat) : hit N.rev.xa p v j = hit N.xa (!p) v j := by
 unfold hit
 show (match (N.xa.map swapA)[j]? with | some x => _ | none => _) = _
 rw [List.getElem?_map]
 cases N.xa[j]? with
 | none => rfl
 | some x => cases p <;> rfl
theorem rev_ends (N : NetD) (p : Bool) (a v : Nat) : ends N.rev.xa a (p, v) = ends N.xa a (!p, v) := by
 unfold ends
 congr 1
 apply List.filter_congr
 intro j _
 exact rev_hit N p v j
theorem rev_tab (N : NetD) (v : Nat) : N.rev.tab v = transT (N.tab v) := by
 unfold NetD.tab
 show ((N.ts.map transT)[((N.vs[v]?).getD (0, 0, 0)).2.2.toNat]?).getD (0, 0, []) = _
 rw [List.getElem?_map]
 cases N.ts[((N.vs[v]?).getD (0, 0, 0)).2.2.toNat]? with
 | none => rfl
 | some t => rfl
theorem tab_ok (ok : N.Ok) {v : Nat} (hv : v < N.nv) : TableOk (N.tab v).1 (N.tab v).2.1 (N.tab v).2.2 := by
 have hx : N.vs[v]? = some (N.vs[v]'hv) := List.getElem?_eq_getElem _
 obtain ⟨-, -, h3, h4⟩ := ok.verts_ _ (List.mem_of_getElem? hx)
 unfold NetD.tab
 rw [hx]
 simp only [Option.getD_some]
 have : N.ts[(N.vs[v]'hv).2.2.toNat]? = some (N.ts[(N.vs[v]'hv).2.2.toNat]'(by omega)) := List.getElem?_eq_getElem _
 rw [this]
 exact ok.types_ _ (List.mem_of_getElem? this)
theorem tabAt_trans {t : Tab} (h : TableOk t.1 t.2.1 t.2.2) (i o : Nat) : tabAt (transT t) o i = tabAt t i o := by
 unfold tabAt transT
 simp only
 have := h.ins_.1
 have := h.outs_.1
 by_cases hc : (i : Int) < t.1 ∧ (o : Int) < t.2.1
 ·rw [if_pos ⟨hc.2, hc.1⟩, if_pos hc]
  have hi : i < t.1.toNat := by omega
  have ho : o < t.2.1.toNat := by omega
  rw [transL_get t hi ho]
  obtain ⟨c, hc⟩ := tab_in h hi ho
  rw [hc]; rfl
 ·rw [if_neg fun h => hc ⟨h.2, h.1⟩, if_neg hc]
theorem rev_turned (ok : N.Ok) : Turned N N.rev := by
 have fr : ∀ a, a < N.na → N.rev.fr a = N.to a := fun a ha => by unfold NetD.fr NetD.to; rw [rev_arc ha]; rfl
 have to : ∀ a, a < N.na → N.rev.to a = N.fr a := fun a ha => by unfold NetD.fr NetD.to; rw [rev_arc ha]; rfl
 refine ⟨rev_na N, fr, to, fun a => ?_, fun a b => ?_⟩
 ·unfold NetD.w
  rw [rev_na]
  by_cases ha : a < N.na
  ·rw [if_pos ha, if_pos ha, rev_arc ha]; rfl
  ·rw [if_neg ha, if_neg ha]
 ·unfold NetD.turn
  rw [rev_na]
  by_cases hc : b < N.na ∧ a < N.na ∧ N.to b = N.fr a
  ·obtain ⟨h1, h2, h3⟩ := hc
   rw [if_pos ⟨h2, h1, by rw [to a h2, fr b h1]; exact h3.symm⟩, if_pos ⟨h1, h2, h3⟩]
   have hv := (NetD.to_lt ok h1).1
   rw [to a h2, ← h3, rev_tab]
   have i1 : N.rev.inPl a = N.outPl a := by unfold NetD.inPl NetD.outPl; rw [to a h2, rev_ends]; rfl
   have i2 : N.rev.outPl b = N.inPl b := by unfold NetD.inPl NetD.outPl; rw [fr b h1, rev_ends]; rfl
   rw [i1, i2]
   exact tabAt_trans (tab_ok ok hv) _ _
  ·rw [if_neg hc, if_neg]
   rintro ⟨h1, h2, h3⟩
   rw [to a h1, fr b h2] at h3
   exact hc ⟨h2, h1, h3.symm⟩
end
theorem band {e : Nat → Nat → Option Nat} {s n M : Nat} (hM : 0 < M) (hs : s < n) (he : ∀ a b x, e a b = some x → x ≤ M ∧ b < n) {t d : Nat} (hg : Goes e s t d) (hl : ∀ c, Goes e s t c → d ≤ c) :
  ∀ k, k ≤ d / M → ∃ v c, v < n ∧ Goes e s v c ∧ (∀ c', Goes e s v c' → c ≤ c') ∧ c / M = k := by
 induction hg with
 | here => exact fun k hk => ⟨s, 0, hs, .here, fun c' _ => Nat.zero_le _, by rw [Nat.zero_div] at hk ⊢; omega⟩
 | @on a b c x hg hx ih =>
  intro k hk
  obtain ⟨x1, x2⟩ := he a b x hx
  have hla : ∀ c', Goes e s a c' → c ≤ c' := fun c' h => by have := hl _ (h.on hx); omega
  by_cases hk1 : k ≤ c / M
  ·exact ih hla k hk1
  ·refine ⟨b, c + x, x2, hg.on hx, hl, ?_⟩
   have h1 : (c + x) / M ≤ (c + M) / M := Nat.div_le_div_right (by omega)
   rw [Nat.add_div_right _ hM] at h1
   omega
theorem least_small {I : Nat} {e : Nat → Nat → Option Nat} {s t d n M : Nat} (hM : 0 < M) (hs : s < n) (he : ∀ a b x, e a b = some x → x ≤ M ∧ b < n) (h : Least I e s t d) (hd : d < I) : d < n * M := by
 have hb := band hM hs he (h.way hd) (fun c hc => h.least c hc)
 rcases Nat.lt_or_ge d (n * M) with h1 | h1
 ·exact h1
 exfalso
 have hq : n ≤ d / M := (Nat.le_div_iff_mul_le hM).2 h1
 have hb' : ∀ k, ∃ v, k ≤ n → v < n ∧ ∃ c, Goes e s v c ∧ (∀ c', Goes e s v c' → c ≤ c') ∧ c / M = k := fun k => by
  by_cases hk : k ≤ n
  ·obtain ⟨v, c, h1, h2, h3, h4⟩ := hb k (by omega)
   exact ⟨v, fun _ => ⟨h1, c, h2, h3, h4⟩⟩
  ·exact ⟨0, fun h => absurd h hk⟩
 have hf := fun k => (Classical.choose_spec (hb' k))
 have hnd : ((List.range (n + 1)).map fun k => Classical.choose (hb' k)).Nodup := by
  unfold List.Nodup
  rw [List.pairwise_map]
  refine (List.Pairwise.and_mem.1 List.pairwise_lt_range).imp fun {a b} hab => ?_
  have ha := List.mem_range.1 hab.1
  have hb2 := List.mem_range.1 hab.2.1
  intro heq
  obtain ⟨-, c, g1, g2, g3⟩ := hf a (by omega)
  obtain ⟨-, c', g4, g5, g6⟩ := hf b (by omega)
  rw [heq] at g1 g2
  have q1 := g2 c' g4
  have q2 := g5 c g1
  have : c = c' := by omega
  subst this
  omega
 have := nodup_len hnd (N := n) fun k hk => by
  obtain ⟨j, hj, rfl⟩ := List.mem_map.1 hk
  exact (hf j (by have := List.mem_range.1 hj; omega)).1
 rw [List.length_map, List.length_range] at this
 omega
theorem turned_costs {N N' : NetD} (ok : N.Ok) (T : Turned N N') {s t x y : Nat} (hna : N.na ≤ 300) (hs : s < N.na) (ht : t < N.na) (x1 : N.w s < INF → Least INFN N.e s t x) (x2 : INF ≤ N.w s → x = INFN) (x3 : x ≤ INFN) (y1 : N'.w t < INF → Least INFN N'.e t s y) (y2 : INF ≤ N'.w t → y = INFN) (y3 : y ≤ INFN) :
  (x = INFN ↔ y = INFN) ∧ (x ≠ INFN → x + (N.w s).toNat = y + (N.w t).toNat ∧ N.w s ≤ 2147483648 ∧ N.w t ≤ 2147483648 ∧ 0 ≤ N.w s ∧ 0 ≤ N.w t) := by
 have ws := NetD.w_bd ok s
 have wt := NetD.w_bd ok t
 have wt' := T.w t
 have ws' := T.w s
 rw [wt'] at y1 y2
 have stop : ∀ {M : NetD} {a b d : Nat}, INF ≤ M.w b → a ≠ b → ¬ Goes M.e a b d := fun {M a b d} hw hne hg => by
  cases hg with
  | here => exact hne rfl
  | on h he => have := (NetD.e_some.1 he).2.1; omega
 by_cases h1 : N.w s < INF
 ·by_cases h2 : N.w t < INF
  ·have L1 := x1 h1
   have L2 := y1 h2
   have bnd : ∀ {M : NetD} (mo : M.Ok) (a b z : Nat), M.e a b = some z → z ≤ 4294967296 ∧ b < M.na := fun {M} mo a b z hz => by
    obtain ⟨q1, q2, rfl⟩ := NetD.e_some.1 hz
    have b1 := NetD.turn_bd mo a b
    have b2 := NetD.w_bd mo b
    refine ⟨by unfold INF at *; omega, (NetD.turn_in q1).2.1⟩
   have s1 : x < INFN → x < 300 * 4294967296 := fun hx => by
    have := least_small (n := N.na) (M := 4294967296) (by omega) hs (bnd ok) L1 hx
    exact Nat.lt_of_lt_of_le this (Nat.mul_le_mul_right 4294967296 hna)
   have s2 : y < INFN → y < 300 * 4294967296 := fun hy => by
    have := least_small (n := N.na) (M := 4294967296) (by omega) ht (fun a b z hz => by
     rw [T.e] at hz
     obtain ⟨t0, q1, q2, rfl⟩ := eT_some.1 hz
     obtain ⟨q3, rfl⟩ := NetD.tr_some.1 q1
     have b1 := NetD.turn_bd ok b a
     have b2 := NetD.w_bd ok b
     have q4 : N.w b < INF := of_decide_eq_true q2
     refine ⟨?_, (NetD.turn_in q3).1⟩
     show (N.turn b a).toNat + (N.w b).toNat ≤ _
     unfold INF at *; omega) L2 hy
    exact Nat.lt_of_lt_of_le this (Nat.mul_le_mul_right 4294967296 hna)
   have hs1 : N.ok s = true := decide_eq_true h1
   have ht1 : N.ok t = true := decide_eq_true h2
   have L2' : Least INFN (eT (fun a b => N.tr b a) N.ok N.wn) t s y := by rw [← T.e]; exact L2
   have L1' : Least INFN (eT N.tr N.ok N.wn) s t x := L1
   obtain ⟨q1, q2⟩ := turned_least hs1 ht1 L1' L2' (fun hx => by
    have := s1 hx
    show x + (N.w s).toNat < INFN
    unfold INF INFN at *; omega) (fun hy => by
    have := s2 hy
    show y + (N.w t).toNat < INFN
    unfold INF INFN at *; omega)
   refine ⟨⟨fun h => by omega, fun h => by omega⟩, fun hx => ⟨q2 (by omega), by unfold INF at *; omega, by unfold INF at *; omega, ws.1, wt.1⟩⟩
  ·have hy := y2 (by omega)
   have hne : s ≠ t := fun e => by subst e; omega
   have hx : x = INFN := by
    rcases Nat.lt_or_ge x INFN with h | h
    ·exact absurd ((x1 h1).way h) (stop (by omega) hne)
    ·omega
   exact ⟨⟨fun _ => hy, fun _ => hx⟩, fun h => absurd hx h⟩
 ·have hx := x2 (by omega)
  have hy : y = INFN := by
   by_cases h2 : N.w t < INF
   ·have hne : t ≠ s := fun e => by subst e; omega
    rcases Nat.lt_or_ge y INFN with h | h
    ·exact absurd ((y1 h2).way h) (stop (by rw [ws']; omega) hne)
    ·omega
   ·exact y2 (by omega)
  exact ⟨⟨fun _ => hy, fun _ => hx⟩, fun h => absurd hx h⟩
end Go.Proofs.YtbbmelmllcaopaaGreatDoor
