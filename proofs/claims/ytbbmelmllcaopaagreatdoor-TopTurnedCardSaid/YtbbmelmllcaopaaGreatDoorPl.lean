/-
A part of the proof of TopTurned: lemmas that the last text joins. No condition.
-/
import Derived.Test.YtbbmelmllcaopaaGreatDoorPk
import Derived.Test.YtbbmelmllcaopaaGreatDoorPj
import Derived.Test.YtbbmelmllcaopaaGreatDoorPf
import Derived.Test.YtbbmelmllcaopaaGreatDoorPh
namespace Go.Proofs.YtbbmelmllcaopaaGreatDoor
set_option linter.unusedVariables false
set_option linter.unusedSimpArgs false
set_option linter.unusedSectionVars false
set_option linter.unnecessarySimpa false
section
open Go Go.RowKit
namespace Eva
section
variable {h h' : AH} {F : Nat → Prop} {Q : Value → AH → Prop} {A : Option Addr} {n K : Nat} {p : List (List Int)} {row : List Int}
theorem aRefMost (hs : Sz cI F h A n K row) (hn : n ≤ 4096) (hx : ∀ x ∈ row, 0 ≤ x ∧ x < 4096) (hK : Q (.int .i64 (mostOf row)) h) : WC Tryz.prog 192 [.slice A n K] h Q := by
 have ln := hs.len
 refine w_ref16_most ⟨fun m x y h1 => ∃ i : Nat, y = i ∧ i ≤ n ∧ m = n - i ∧ x = mostOf (row.take i) ∧ h1 = h, n, ⟨0, rfl, Nat.zero_le _, rfl, rfl, rfl⟩, ?_⟩
 rintro m x y h1 ⟨i, rfl, hi, hm, rfl, rfl⟩
 refine ⟨fun hlt => ?_, fun hge => ?_⟩
 ·obtain ⟨b, o, v, hA, -, -, hv, e0⟩ := hs.int (k := i) (by omega)
  have := hx v (List.mem_of_getElem? hv)
  refine ⟨i, rfl, b, o, hA, by omega, _, e0, _, wr_ok (by omega) (by omega), _, rfl, _, wrS (by omega), n - (i + 1), by omega, i + 1, rfl, by omega, rfl, ?_, rfl⟩
  rw [mostOf_succ hv]
  split <;> omega
 ·obtain rfl : i = n := by omega
  rw [List.take_of_length_le (by omega)]
  exact hK
theorem aRefLevel {nv l : Nat} (hs0 : Sz (Rc.sliceZ cI) F h A n K p) (hn : n ≤ 6) (hnv : nv ≤ 4096) (h1l : 1 ≤ l) (hl : l ≤ n) (hr : p[l - 1]? = some row) (hlow : ∀ low, 2 ≤ l → p[l - 2]? = some low → low.length = nv)
  (hK : ∀ e h', Nw h h' → (e = 0 → row.length = nv ∧ InRow nv row ∧ FullRow row ∧ ∀ low, 2 ≤ l → p[l - 2]? = some low → NestRow low row) → Q (.int .i64 e) h') :
  WC Tryz.prog 115 [.int .i64 nv, .agg #[.slice A n K], .int .i64 l, .slice none 0 0] h Q := by
 have hs : Sz (Rc.sliceZ cI) (fun z => z < h.next) h A n K p := hs0.mono fun z _ hz => hz
 have ln := hs.len
 refine w_ref16_checkLevel fun h1 e1 => ?_
 obtain ⟨k1, g1, z1⟩ := news e1
 obtain ⟨b, o, A4, n4, K4, row', hA, hF, hb, hr', e0, s4⟩ := (hs.nw k1).rowZ (k := l - 1) (by omega)
 rw [hr] at hr'
 obtain rfl := Option.some.inj hr'
 have l4 := s4.len
 refine ⟨_, _, _, ldC_of g1 rfl, _, wr_ok (by omega) (by omega), l - 1, by omega, b, o, hA, by omega, A4, n4, K4, e0, fun heq => ?_, fun _ => hK _ h1 k1 (fun h => absurd h (by decide))⟩
 have hn4 : n4 = nv := by omega
 subst hn4
 refine ⟨fun m x h2 => ∃ i : Nat, x = i ∧ i ≤ n4 ∧ m = n4 - i ∧ h2 = h1 ∧ ∀ x ∈ row.take i, 0 ≤ x ∧ x < n4, n4, ⟨0, rfl, Nat.zero_le _, rfl, rfl, by simp⟩, ?_⟩
 rintro m x h2 ⟨i, rfl, hi, hm, rfl, hin⟩
 refine ⟨fun hlt => ?_, fun hge => ?_⟩
 ·obtain ⟨b', o', x, hA', -, -, hx, f0⟩ := s4.int (k := i) (by omega)
  refine ⟨i, rfl, b', o', hA', by omega, _, f0, fun _ => hK _ h2 k1 (fun h => absurd h (by decide)), fun x0 => ⟨by omega, _, f0, fun _ => hK _ h2 k1 (fun h => absurd h (by decide)), fun x1 => ⟨_, wrS (by omega), n4 - (i + 1), by omega, i + 1, rfl, by omega, rfl, rfl, fun y hy => ?_⟩⟩⟩
  rw [List.take_add_one, hx, List.mem_append] at hy
  rcases hy with hy | hy
  ·exact hin y hy
  ·simp at hy; subst hy; omega
 ·obtain rfl : i = n4 := by omega
  have hfull : row.take i = row := List.take_of_length_le (by omega)
  rw [hfull] at hin
  have hm0 := mostOf_nonneg row
  have hm1 : mostOf row ≤ i := mostOf_le (by omega) fun x hx => (hin x hx).2
  refine ⟨i, rfl, by omega, fun h3 e3 => ?_⟩
  obtain ⟨k3, g3, z3⟩ := news e3
  rw [rep_one] at g3
  refine ⟨fun m x h4 => ∃ j : Nat, x = j ∧ j ≤ i ∧ m = i - j ∧ Bk h4 h2.next ((tal (row.take j) i).map (Value.int .i64)) 3 ∧ Nw h2 h4 ∧ h2.next < h4.next, i, ⟨0, rfl, Nat.zero_le _, rfl, by rw [List.take_zero, tal_nil, List.map_replicate]; exact g3, k3, by omega⟩, ?_⟩
  rintro m' x h4 ⟨j, rfl, hj, hm', b4, k4, lt4⟩
  refine ⟨fun hlt => ?_, fun hge' => ?_⟩
  ·obtain ⟨b', o', x, hA', -, -, hx, f0⟩ := (s4.nw k4).int (k := j) (by omega)
   obtain ⟨x0, x1⟩ := hin x (List.mem_of_getElem? hx)
   obtain ⟨c, rfl⟩ := Int.eq_ofNat_of_zero_le x0
   have hc : c < i := by omega
   have hcnt : ((row.take j).count (c : Int) : Int) ≤ i := by
    have := List.count_le_length (a := (c : Int)) (l := row.take j)
    rw [List.length_take] at this
    omega
   obtain ⟨h5, s5, b5, z5, o5⟩ := st_one (v := .int .i64 (((row.take j).count (c : Int) : Int) + 1)) b4 (o := 0 + c) (by simp [tal_len]; omega) rfl
   refine ⟨j, rfl, b', o', hA', by omega, _, f0, c, rfl, hc, ((row.take j).count (c : Int) : Int), ?_, _, wr_ok (by omega) (by omega), hc, h5, s5, _, wrS (by omega), i - (j + 1), by omega, j + 1, rfl, by omega, rfl, ?_, ⟨by have := k4.next; omega, fun z hz => (o5 z (by omega)).trans (k4.get z hz)⟩, by omega⟩
   ·rw [ldC_bk b4, Nat.zero_add, List.getElem?_map, tal_get hc]; rfl
   ·rw [Nat.zero_add, ← List.map_set] at b5
    rw [List.take_add_one, hx]
    show Bk h5 h2.next ((tal (row.take j ++ [(c : Int)]) i).map _) _
    rw [tal_succ hc]
    exact b5
  ·obtain rfl : j = i := by omega
   rw [hfull] at b4
   refine ⟨fun m x h6 => ∃ c : Nat, x = c ∧ (c : Int) ≤ mostOf row ∧ m = (mostOf row).toNat - c ∧ h6 = h4 ∧ ∀ d : Nat, d < c → (row.count (d : Int) : Int) ≠ 0, (mostOf row).toNat, ⟨0, rfl, by omega, rfl, rfl, fun d h => absurd h (by omega)⟩, ?_⟩
   rintro m3 x h6 ⟨c, rfl, hc, hm3, rfl, hd⟩
   refine aRefMost (s4.nw k4) hnv (fun x hx => by have := hin x hx; omega) ⟨_, rfl, fun hlt => ?_, fun hge3 => ?_⟩
   ·have hcj : c < j := by omega
    refine ⟨c, rfl, hcj, (row.count (c : Int) : Int), by rw [ldC_bk b4, Nat.zero_add, List.getElem?_map, tal_get hcj]; rfl, fun _ => hK _ h6 (k1.trans k4) (fun h => absurd h (by decide)), fun hne => ⟨_, wrS (by omega), (mostOf row).toNat - (c + 1), by omega, c + 1, rfl, by omega, rfl, rfl, fun d hd' => ?_⟩⟩
    by_cases e : d = c
    ·subst e; exact hne
    ·exact hd d (by omega)
   ·have hfr : FullRow row := (full_iff hin).2 fun c' hc' => hd c' (by omega)
    have k6 := k1.trans k4
    refine ⟨fun h8 => h8 = h6 ∧ ∀ low, 2 ≤ l → p[l - 2]? = some low → NestRow low row, ?_, ?_⟩
    ·rintro h8 ⟨rfl, hnest⟩
     have done : Q (.int .i64 0) h8 := hK 0 h8 k6 fun _ => ⟨by omega, hin, hfr, hnest⟩
     refine ⟨fun m x h9 => x = 0 ∧ h9 = h8, 0, ⟨rfl, rfl⟩, ?_⟩
     rintro m4 x h9 ⟨rfl, rfl⟩
     exact ⟨fun _ => ⟨fun h => absurd h (by decide), fun _ => done⟩, fun _ => done⟩
    ·refine ⟨fun m x h10 => ∃ a : Nat, x = a ∧ a ≤ j ∧ m = j - a ∧ h10 = h6 ∧ ∀ low, 2 ≤ l → p[l - 2]? = some low → ∀ (a' b' : Nat) (x y x' y' : Int), a' < a → low[a']? = some x → low[b']? = some y → row[a']? = some x' → row[b']? = some y' → x ≤ y → x' ≤ y', j, ⟨0, rfl, Nat.zero_le _, rfl, rfl, fun low _ _ a' b' x y x' y' h => absurd h (by omega)⟩, ?_⟩
     rintro m5 x h10 ⟨a, rfl, ha, hm5, rfl, hna⟩
     refine ⟨fun hlt => ⟨fun hl1 => ?_, fun hl1 => ⟨rfl, fun low h => absurd h (by omega)⟩⟩, fun hge5 => ⟨rfl, fun low h2 hlo a' b' x y x' y' g1 g2 g3 g4 hxy => hna low h2 hlo a' b' x y x' y' (by have := (List.getElem?_eq_some_iff.1 g3).1; omega) g1 g2 g3 g4 hxy⟩⟩
     obtain ⟨b5, o5, A6, n6, K6, low, hA5, -, -, hlo, f5, s6⟩ := (hs.nw k6).rowZ (k := l - 2) (by omega)
     have hll := hlow low (by omega) hlo
     have l6 := s6.len
     refine ⟨fun m x h11 => ∃ q : Nat, x = q ∧ q ≤ j ∧ m = j - q ∧ h11 = h10 ∧ ∀ (b' : Nat) (x y x' y' : Int), b' < q → low[a]? = some x → low[b']? = some y → row[a]? = some x' → row[b']? = some y' → x ≤ y → x' ≤ y', j, ⟨0, rfl, Nat.zero_le _, rfl, rfl, fun b' x y x' y' h => absurd h (by omega)⟩, ?_⟩
     rintro m6 x h11 ⟨q, rfl, hq, hm6, rfl, hnq⟩
     refine ⟨fun hlt' => ?_, fun hge6 => ?_⟩
     ·obtain ⟨b6, o6, x, hA6, -, -, hx, fx⟩ := s6.int (k := a) (by omega)
      obtain ⟨b7, o7, y, hA7, -, -, hy, fy⟩ := s6.int (k := q) (by omega)
      obtain ⟨b8, o8, x', hA8, -, -, hx', fx'⟩ := (s4.nw k4).int (k := a) (by omega)
      obtain ⟨b9, o9, y', hA9, -, -, hy', fy'⟩ := (s4.nw k4).int (k := q) (by omega)
      rw [hA8] at hA9
      injection hA9 with hA9
      injection hA9 with q1 q2
      subst q1 q2
      have gp := k4.bk (by omega) g1
      have next : (x ≤ y → x' ≤ y') → ∃ x32, IntKind.i64.wrap ((q : Int) + 1) = x32 ∧ ∃ m' : Nat, m' < m6 ∧ ∃ q' : Nat, x32 = q' ∧ q' ≤ j ∧ m' = j - q' ∧ h11 = h11 ∧ ∀ (b' : Nat) (x y x' y' : Int), b' < q' → low[a]? = some x → low[b']? = some y → row[a]? = some x' → row[b']? = some y' → x ≤ y → x' ≤ y' := fun hxy => ⟨_, wrS (by omega), j - (q + 1), by omega, q + 1, rfl, by omega, rfl, rfl, fun b' u v u' v' hb' g1 g2 g3 g4 huv => by
       by_cases e : b' = q
       ·subst e
        obtain rfl := Option.some.inj (hx.symm.trans g1)
        obtain rfl := Option.some.inj (hy.symm.trans g2)
        obtain rfl := Option.some.inj (hx'.symm.trans g3)
        obtain rfl := Option.some.inj (hy'.symm.trans g4)
        exact hxy huv
       ·exact hnq b' u v u' v' (by omega) g1 g2 g3 g4 huv⟩
      refine ⟨_, _, _, ldC_of gp rfl, _, wr_ok (by omega) (by omega), l - 2, by omega, b5, o5, hA5, by omega, _, _, _, f5, a, rfl, b6, o6, hA6, by omega, _, fx, _, _, _, ldC_of gp rfl, _, wr_ok (by omega) (by omega), l - 2, by omega, b5, o5, hA5, by omega, _, _, _, f5, q, rfl, b7, o7, hA7, by omega, _, fy, fun hxy => ⟨b8, o8, hA8, by omega, _, fx', by omega, _, fy', fun _ => hK _ h11 k6 (fun h => absurd h (by decide)), fun hle => next fun _ => by omega⟩, fun hxy => next fun h => absurd h hxy⟩
     ·obtain rfl : q = j := by omega
      refine ⟨_, wrS (by omega), q - (a + 1), by omega, a + 1, rfl, by omega, rfl, rfl, fun low' h2 hlo' a' b' x y x' y' ha' g1 g2 g3 g4 hxy => ?_⟩
      by_cases e : a' = a
      ·subst e
       obtain rfl := Option.some.inj (hlo.symm.trans hlo')
       exact hnq b' x y x' y' (by have := (List.getElem?_eq_some_iff.1 g4).1; omega) g1 g2 g3 g4 hxy
      ·exact hna low' h2 hlo' a' b' x y x' y' (by omega) g1 g2 g3 g4 hxy
end
end Eva
end
section
open Go Go.RowKit
def FewN (N : NetD) : Prop := N.vs.length ≤ 80 ∧ N.xa.length ≤ 300 ∧ N.ts.length ≤ 80 ∧ ∀ t ∈ N.ts, t.2.2.length ≤ 300
namespace Eva
section
variable {h h' : AH} {F G : Nat → Prop} {Q : Value → AH → Prop} {A Av Aa At Ap : Option Addr} {n K nv Kv na Ka nt Kt np Kp : Nat} {N : NetD} {p : List (List Int)}
theorem aRefPart {v : Nat} (hs0 : Sz (Rc.sliceZ cI) F h A n K p) (hK : ∀ A' n' K' e h', Nw h h' → (e = 0 → PartOk v p) → Q (.agg #[.slice A' n' K', .int .i64 e]) h') :
  WC Tryz.prog 53 [.int .i64 v, .agg #[.slice A n K], .slice none 0 0] h Q := by
 have hs : Sz (Rc.sliceZ cI) (fun z => z < h.next) h A n K p := hs0.mono fun z _ hz => hz
 have ln := hs.len
 refine w_ref16_CheckPart fun h1 e1 h2 e2 => ?_
 obtain ⟨k1, g1, z1⟩ := news e1
 obtain ⟨k2, g2, z2⟩ := news e2
 have k12 := k1.trans k2
 have g12 := k2.bk (by omega) g1
 have err : ∀ {h3} {s : ByteArray} {x e : Int}, Nw h2 h3 → e ≠ 0 → WC Tryz.prog 97 [.string s, .int .i64 x, .int .i64 e] h3 (fun v1 h3 => ∃ (A2 : Option Addr) (n2 : Nat) (K2 : Nat) (x4 : Int), v1 = .agg #[.slice A2 n2 K2, .int .i64 x4] ∧ ∃ h4 : AH, stC h3 h1.next 0 [.slice A2 n2 K2, .int .i64 x4] = some h4 ∧ ∃ (A3 : Option Addr) (n3 : Nat) (K3 : Nat) (x5 : Int), ldN h4 h1.next 0 2 = some [.slice A3 n3 K3, .int .i64 x5] ∧ Q (.agg #[.slice A3 n3 K3, .int .i64 x5]) h4) := fun {h3 s x e} k3 he =>
  aAt fun A' h' s' k' => ⟨_, _, _, _, rfl, out2 ((k3.trans k').bk (by omega) g2) fun h4 m4 => hK _ _ _ _ h4 (m4.is_nw ((k12.trans k3).trans k') fun z hz => by omega) (fun h => absurd h he)⟩
 refine ⟨fun h3 => h3 = h2 ∧ v ≤ 4096 ∧ n ≤ 6 ∧ n ≠ 0, ?_, fun h => absurd h (by omega), fun v0 => ⟨fun _ => err (Nw.refl _) (by decide), fun v1 => ⟨_, _, _, ldC_of g12 rfl, fun _ => err (Nw.refl _) (by decide), fun n6 => ⟨_, _, _, ldC_of g12 rfl, fun _ => err (Nw.refl _) (by decide), fun n0 => ⟨fun h => absurd h (by decide), fun _ => ⟨rfl, by omega, by omega, by omega⟩⟩⟩⟩⟩⟩
 rintro h3 ⟨rfl, hv, hn6, hn0⟩
 refine ⟨fun m x h4 => ∃ l : Nat, x = l ∧ 1 ≤ l ∧ l ≤ n + 1 ∧ m = n + 1 - l ∧ Nw h3 h4 ∧ ∀ (k : Nat) (row : List Int), k + 1 < l → p[k]? = some row → row.length = v ∧ InRow v row ∧ FullRow row ∧ ∀ low, 1 ≤ k → p[k - 1]? = some low → NestRow low row, n, ⟨1, rfl, by omega, by omega, rfl, Nw.refl _, fun k row h => absurd h (by omega)⟩, ?_⟩
 rintro m x h4 ⟨l, rfl, hl1, hl, hm, k4, hok⟩
 have hs4 := hs.nw (k12.trans k4)
 refine ⟨_, _, _, ldC_of (k4.bk (by omega) g12) rfl, fun hle => ?_, fun hgt => ?_⟩
 ·have hr : p[l - 1]? = some (p[l - 1]'(by omega)) := List.getElem?_eq_getElem (by omega)
  refine ⟨_, _, _, ldN1 (ldC_of (k4.bk (by omega) g12) rfl), aRefLevel hs4 hn6 hv hl1 (by omega) hr (fun low h2 hlo => (hok (l - 2) low (by omega) hlo).1) fun e h5 k5 hz => ⟨e, rfl, fun he => ⟨_, wrS (by omega), n + 1 - (l + 1), by omega, l + 1, rfl, by omega, by omega, rfl, k4.trans k5, fun k row hk hrow => ?_⟩, fun he => err (k4.trans k5) he⟩⟩
  by_cases e : k + 1 = l
  ·have hk' : k = l - 1 := by omega
   subst hk'
   rw [hr] at hrow
   obtain rfl := Option.some.inj hrow
   obtain ⟨y1, y2, y3, y4⟩ := hz he
   exact ⟨y1, y2, y3, fun low h1 hlo => y4 low (by omega) (by rw [show l - 2 = l - 1 - 1 by omega]; exact hlo)⟩
  ·exact hok k row (by omega) hrow
 ·have hl' : l = n + 1 := by omega
  refine out2 (k4.bk (by omega) g2) fun h5 m5 => hK _ _ _ _ h5 (m5.is_nw (k12.trans k4) fun z hz => by omega) fun _ => ?_
  have all : ∀ x ∈ p, x.length = v ∧ InRow v x ∧ FullRow x := fun x hx => by
   obtain ⟨k, hk⟩ := List.getElem?_of_mem hx
   obtain ⟨y1, y2, y3, -⟩ := hok k x (by have := (List.getElem?_eq_some_iff.1 hk).1; omega) hk
   exact ⟨y1, y2, y3⟩
  exact ⟨hv, by omega, by omega, fun x hx => (all x hx).1, fun x hx => (all x hx).2.1, fun x hx => (all x hx).2.2, fun k l' r h1 h2 => (hok (k + 1) r (by have := (List.getElem?_eq_some_iff.1 h2).1; omega) h2).2.2.2 l' (by omega) (by rw [Nat.add_sub_cancel]; exact h1)⟩
theorem aFew13 (hs : Sz (Rc.sliceZ cI) F h A n K p) (hmx : n ≤ 9223372036854775807) (hK : ∀ b h', Nw h h' → (b = true → n ≤ 10 ∧ ∀ x ∈ p, x.length ≤ 60) → Q (.bool b) h') : WC Tryz.prog 52 [.agg #[.slice A n K]] h Q := by
 have ln := hs.len
 refine w_law13_Few fun h1 e1 => ?_
 obtain ⟨k1, g1, z1⟩ := news e1
 refine ⟨fun m x h2 => ∃ i : Nat, x = i ∧ i ≤ n ∧ m = n - i ∧ h2 = h1 ∧ ∀ x ∈ p.take i, x.length ≤ 60, n, ⟨0, rfl, Nat.zero_le _, rfl, rfl, by simp⟩, ?_⟩
 rintro m x h2 ⟨i, rfl, hi, hm, rfl, hx⟩
 refine ⟨_, _, _, ldC_of g1 rfl, fun hlt => ?_, fun hge => ⟨_, _, _, ldC_of g1 rfl, fun hle => hK true h2 k1 fun _ => ⟨by omega, fun x hm => hx x (by rw [List.take_of_length_le (by omega)]; exact hm)⟩, fun _ => hK false h2 k1 fun h => Bool.noConfusion h⟩⟩
 obtain ⟨b, o, A4, n4, K4, row, hA, -, -, hr, e0, s4⟩ := (hs.nw k1).rowZ (k := i) (by omega)
 have l4 := s4.len
 have wi : IntKind.i64.wrap ((i : Int) + 1) = ((i + 1 : Nat) : Int) := by
  have := (List.getElem?_eq_some_iff.1 hr).1
  rw [Int.natCast_succ]; exact wr_ok (by omega) (by omega)
 refine ⟨_, _, _, ldC_of g1 rfl, i, rfl, b, o, hA, by omega, A4, n4, K4, e0, fun _ => hK false h2 k1 fun h => Bool.noConfusion h, fun hle => ⟨_, wi, n - (i + 1), by omega, i + 1, rfl, by omega, rfl, rfl, fun y hy => ?_⟩⟩
 rw [List.take_add_one, hr, List.mem_append] at hy
 rcases hy with hy | hy
 ·exact hx y hy
 ·simp at hy; subst hy; omega
theorem aMay13 {v : Nat} (hs : Sz (Rc.sliceZ cI) F h A n K p) (hmx : n ≤ 9223372036854775807) (hK : ∀ b h', Nw h h' → (b = true → n ≤ 10 ∧ (∀ x ∈ p, x.length ≤ 60) ∧ v ≤ 60 ∧ PartOk v p) → Q (.bool b) h') : WC Tryz.prog 22 [.int .i64 v, .agg #[.slice A n K]] h Q := by
 refine w_law13_May fun h1 e1 => ?_
 obtain ⟨k1, g1, z1⟩ := news e1
 refine ⟨_, _, _, ldN1 (ldC_of g1 rfl), aFew13 (hs.nw k1) hmx fun b h2 k2 hb => ⟨b, rfl, fun ht => ⟨fun h60 => ⟨_, _, _, ldN1 (ldC_of (k2.bk (by omega) g1) rfl), aRefPart (hs.nw (k1.trans k2)) fun A' n' K' e h3 k3 he => ⟨_, _, _, _, rfl, fun h0 => hK true h3 ((k1.trans k2).trans k3) fun _ => ⟨(hb ht).1, (hb ht).2, by omega, he h0⟩, fun _ => hK false h3 ((k1.trans k2).trans k3) fun h => Bool.noConfusion h⟩⟩, fun _ => hK false h2 (k1.trans k2) fun h => Bool.noConfusion h⟩, fun _ => hK false h2 (k1.trans k2) fun h => Bool.noConfusion h⟩⟩
theorem aFew3 (Z : NetZ h F Av nv Kv Aa na Ka At nt Kt N) (hK : ∀ b h', Nw h h' → (b = true → FewN N) → Q (.bool b) h') : WC Tryz.prog 50 [.agg #[.slice Av nv Kv, .slice Aa na Ka, .slice At nt Kt]] h Q := by
 have lv := Z.vs.len
 have la := Z.xa.len
 have lt := Z.ts.len
 refine w_law3_Few fun h1 e1 => ?_
 obtain ⟨k1, g1, z1⟩ := news e1
 have no : ∀ {h'}, Nw h h' → Q (.bool false) h' := fun k => hK false _ k fun h => Bool.noConfusion h
 refine ⟨_, _, _, ldC_of g1 rfl, fun _ => no k1, fun n0 => ⟨_, _, _, ldC_of g1 rfl, fun _ => no k1, fun n1 => ⟨_, _, _, ldC_of g1 rfl, fun _ => no k1, fun n2 => ?_⟩⟩⟩
 refine ⟨fun m x h2 => ∃ i : Nat, x = i ∧ i ≤ nt ∧ m = nt - i ∧ h2 = h1 ∧ ∀ t ∈ N.ts.take i, t.2.2.length ≤ 300, nt, ⟨0, rfl, Nat.zero_le _, rfl, rfl, by simp⟩, ?_⟩
 rintro m x h2 ⟨i, rfl, hi, hm, rfl, hx⟩
 refine ⟨_, _, _, ldC_of g1 rfl, fun hlt => ?_, fun hge => hK true h2 k1 fun _ => ⟨by omega, by omega, by omega, fun t ht => hx t (by rw [List.take_of_length_le (by omega)]; exact ht)⟩⟩
 obtain ⟨b', o', p', q', A', n', K', zs, hA', -, -, htt, f0, f1, f2, sz⟩ := (Z.nw k1).ts.tableZ (k := i) (by omega)
 have l4 := sz.len
 refine ⟨_, _, _, ldC_of g1 rfl, i, rfl, b', o', hA', by omega, A', n', K', f2, fun _ => no k1, fun hle => ⟨_, wrS (by omega), nt - (i + 1), by omega, i + 1, rfl, by omega, rfl, rfl, fun y hy => ?_⟩⟩
 rw [List.take_add_one, htt, List.mem_append] at hy
 rcases hy with hy | hy
 ·exact hx y hy
 ·simp at hy; subst hy; simp only; omega
theorem aMay3 (Z : NetZ h F Av nv Kv Aa na Ka At nt Kt N) (hK : ∀ b h', Nw h h' → (b = true → FewN N ∧ N.Ok) → Q (.bool b) h') : WC Tryz.prog 21 [.agg #[.slice Av nv Kv, .slice Aa na Ka, .slice At nt Kt]] h Q := by
 refine w_law3_May fun h1 e1 => ?_
 obtain ⟨k1, g1, z1⟩ := news e1
 have bN : ∀ {h'}, Nw h1 h' → ldN h' h.next 0 3 = some [.slice Av nv Kv, .slice Aa na Ka, .slice At nt Kt] := fun a => ldN3' (ldC_of (a.bk (by omega) g1) rfl) (ldC_of (a.bk (by omega) g1) rfl) (ldC_of (a.bk (by omega) g1) rfl)
 refine ⟨_, _, _, _, _, _, _, _, _, bN (Nw.refl _), aFew3 (Z.nw k1) fun b h2 k2 hb => ⟨b, rfl, fun ht => ⟨_, _, _, _, _, _, _, _, _, bN k2, aRefNet (Z.nw (k1.trans k2)) (fun t hm => by have := (hb ht).2.2.2 t hm; omega) fun A' n' K' e h3 k3 he => ⟨_, _, _, _, rfl, fun h0 => hK true h3 ((k1.trans k2).trans k3) fun _ => ⟨hb ht, he h0⟩, fun _ => hK false h3 ((k1.trans k2).trans k3) fun h => Bool.noConfusion h⟩⟩, fun _ => hK false h2 (k1.trans k2) fun h => Bool.noConfusion h⟩⟩
theorem aMay (Z : NetZ h F Av nv Kv Aa na Ka At nt Kt N) (hs : Sz (Rc.sliceZ cI) G h Ap np Kp p) (hmx : np ≤ 9223372036854775807) (hK : ∀ b h', Nw h h' → (b = true → FewN N ∧ N.Ok ∧ N.nv ≤ 60 ∧ np ≤ 10 ∧ (∀ x ∈ p, x.length ≤ 60) ∧ PartOk N.nv p) → Q (.bool b) h') :
  WC Tryz.prog 5 [.agg #[.slice Av nv Kv, .slice Aa na Ka, .slice At nt Kt], .agg #[.slice Ap np Kp]] h Q := by
 have lv : N.nv = nv := Z.vs.len
 refine w_top_may fun h1 e1 h2 e2 => ?_
 obtain ⟨k1, g1, z1⟩ := news e1
 obtain ⟨k2, g2, z2⟩ := news e2
 have k12 := k1.trans k2
 have g12 := k2.bk (by omega) g1
 refine ⟨_, _, _, _, _, _, _, _, _, ldN3' (ldC_of g12 rfl) (ldC_of g12 rfl) (ldC_of g12 rfl), aMay3 (Z.nw k12) fun b h3 k3 hb => ⟨b, rfl, fun ht => ⟨_, _, _, ldC_of (k3.bk (by omega) g12) rfl, _, _, _, ldN1 (ldC_of (k3.bk (by omega) g2) rfl), aMay13 (hs.nw (k12.trans k3)) hmx fun b' h4 k4 hb' => ⟨b', rfl, hK b' h4 ((k12.trans k3).trans k4) fun ht' => ?_⟩⟩, fun _ => hK false h3 (k12.trans k3) fun h => Bool.noConfusion h⟩⟩
 obtain ⟨y1, y2, y3, y4⟩ := hb' ht'
 rw [lv]
 exact ⟨(hb ht).1, (hb ht).2, y3, y1, y2, y4⟩
end
end Eva
end
section
open Go Go.RowKit
namespace Eva
section
variable {h h' : AH} {F G : Nat → Prop} {Q : Value → AH → Prop} {A B : Option Addr} {n m K L : Nat} {xs ys low row : List Int}
theorem aNested (hs : Sa cI F h A n K low) (ht : Sa cI G h B n L row) (hn : n ≤ 4096) (h1 : InRow n low) (h2 : FullRow low) (h3 : InRow n row) (hne : NestRow low row) (hK : ∀ h', Nw h h' → Q (.bool true) h') : WC Tryz.prog 242 [.slice A n K, .slice B n L] h Q := by
 have hl := hs.len
 have hl' := ht.len
 refine w_part_nested ⟨by omega, fun h1' e1 => ?_⟩
 obtain ⟨k1, g1, z1⟩ := news e1
 rw [rep_one] at g1
 refine ⟨fun m x h2' => ∃ i : Nat, x = i ∧ i ≤ n ∧ m = n - i ∧ Bk h2' h.next ((List.replicate i (-1 : Int) ++ List.replicate (n - i) 0).map (Value.int .i64)) 3 ∧ Nw h h2' ∧ h.next < h2'.next, n, ⟨0, rfl, Nat.zero_le _, rfl, by rw [List.replicate_zero, List.nil_append, List.map_replicate]; exact g1, k1, by omega⟩, ?_⟩
 rintro m x h2' ⟨i, rfl, hi, hm, b2, k2, lt2⟩
 refine ⟨fun hlt => ?_, fun hge => ?_⟩
 ·obtain ⟨h3', s3, b3, z3, o3⟩ := st_one (v := .int .i64 (-1)) b2 (o := 0 + i) (by simp; omega) rfl
  refine ⟨i, rfl, by omega, h3', s3, _, (by rw [Int.natCast_succ]; exact wr_ok (by omega) (by omega) : IntKind.i64.wrap ((i : Int) + 1) = ((i + 1 : Nat) : Int)), n - (i + 1), by omega, i + 1, rfl, by omega, rfl, ?_, ⟨by have := k2.next; omega, fun b hb => (o3 b (by omega)).trans (k2.get b hb)⟩, by omega⟩
  have e : List.replicate (i + 1) (-1 : Int) ++ List.replicate (n - (i + 1)) 0 = (List.replicate i (-1 : Int) ++ List.replicate (n - i) 0).set i (-1) := by
   rw [List.set_append_right _ _ (by simp), List.length_replicate, Nat.sub_self, show n - i = (n - (i + 1)) + 1 by omega, List.replicate_succ (n := n - (i + 1)), List.set_cons_zero, List.replicate_succ', List.append_assoc]
   rfl
  rw [e, List.map_set]
  rw [Nat.zero_add] at b3
  exact b3
 ·obtain rfl : i = n := by omega
  rw [Nat.sub_self, List.replicate_zero, List.append_nil] at b2
  refine ⟨fun m x y h4 => ∃ (v : Nat) (up : List Int), y = v ∧ v ≤ i ∧ m = i - v ∧ x = mostOf (low.take v) - 1 ∧ up.length = i ∧ Bk h4 h.next (up.map (Value.int .i64)) 3 ∧ UpA low row v up ∧ (∀ u ∈ up, -1 ≤ u) ∧ Nw h h4 ∧ h.next < h4.next, i, ⟨0, _, rfl, Nat.zero_le _, rfl, by simp [mostOf], by simp, b2, ⟨fun v x y h => by omega, fun c u h => .inl (List.eq_of_mem_replicate (List.mem_of_getElem? h))⟩, fun u h => by have := List.eq_of_mem_replicate h; omega, k2, lt2⟩, ?_⟩
  rintro m x y h4 ⟨v, up, rfl, hv, hm, rfl, hul, b4, hup, hu1, k4, lt4⟩
  have hm0 := mostOf_nonneg (low.take v)
  have hm1 : mostOf (low.take v) ≤ i := mostOf_le (by omega) fun x hx => (h1 x (List.mem_of_mem_take hx)).2
  refine ⟨fun hlt => ?_, fun hge => ?_⟩
  ·obtain ⟨b, o, x, hA, -, -, hx, e0⟩ := (hs.nw k4).int (k := v) (by omega)
   obtain ⟨b', o', r, hB, -, -, hr, e1'⟩ := (ht.nw k4).int (k := v) (by omega)
   obtain ⟨x0, x1⟩ := h1 x (List.mem_of_getElem? hx)
   obtain ⟨c, rfl⟩ := Int.eq_ofNat_of_zero_le x0
   have hcn : c < i := by omega
   have hmo := mostOf_succ hx
   obtain ⟨u, hu⟩ : ∃ u, up[c]? = some u := ⟨_, List.getElem?_eq_getElem (by omega)⟩
   have hub := hu1 u (List.mem_of_getElem? hu)
   have rd : ldC h4 h.next (0 + c) = some (.int .i64 u) := by
    rw [ldC_bk b4, Nat.zero_add, List.getElem?_map, hu]; rfl
   have hor : u < 0 ∨ u = r := by
    rcases hup.from_ c u hu with h | ⟨v', -, g1, g2⟩
    ·exact .inl (by omega)
    ·exact .inr (hne.eq g1 hx g2 hr)
   obtain ⟨h5, s5, b5, z5, o5⟩ := st_one (v := .int .i64 r) b4 (o := 0 + c) (by simp; omega) rfl
   rw [Nat.zero_add, ← List.map_set] at b5
   have fin : ∃ x10, (if mostOf (low.take v) - 1 < (c : Int) then (c : Int) else mostOf (low.take v) - 1) = x10 ∧ ∃ x11, IntKind.i64.wrap ((v : Int) + 1) = x11 ∧ ∃ m' : Nat, m' < m ∧ ∃ (v' : Nat) (up : List Int), x11 = v' ∧ v' ≤ i ∧ m' = i - v' ∧ x10 = mostOf (low.take v') - 1 ∧ up.length = i ∧ Bk h5 h.next (up.map (Value.int .i64)) 3 ∧ UpA low row v' up ∧ (∀ u ∈ up, -1 ≤ u) ∧ Nw h h5 ∧ h.next < h5.next := by
    refine ⟨_, rfl, _, (by rw [Int.natCast_succ]; exact wr_ok (by omega) (by omega) : IntKind.i64.wrap ((v : Int) + 1) = ((v + 1 : Nat) : Int)), i - (v + 1), by omega, v + 1, up.set c r, rfl, by omega, rfl, ?_, by simp [hul], b5, hup.next hx hr hu hor (fun x hx => (h3 x hx).1), fun z hz => ?_, ⟨by have := k4.next; omega, fun b hb => (o5 b (by omega)).trans (k4.get b hb)⟩, by omega⟩
    ·rw [hmo]; split <;> omega
    ·rcases List.mem_or_eq_of_mem_set hz with h | h
     ·exact hu1 z h
     ·have := (h3 r (List.mem_of_getElem? hr)).1
      omega
   refine ⟨v, rfl, b, o, hA, by omega, _, e0, c, rfl, hcn, u, rd, fun hu0 => ⟨hcn, u, rd, b', o', hB, by omega, _, e1', fun he => ⟨by omega, _, e1', hcn, h5, s5, fin⟩, fun he => absurd (hor.resolve_left (by omega)) he⟩, fun hu0 => ⟨b', o', hB, by omega, _, e1', hcn, h5, s5, fin⟩⟩
  ·obtain rfl : v = i := by omega
   have hin : low.take v = low := List.take_of_length_le (by omega)
   rw [hin] at hm0 hm1 ⊢
   obtain ⟨q, hq⟩ : ∃ q : Nat, mostOf low = q := ⟨(mostOf low).toNat, by omega⟩
   refine ⟨_, wr_ok (by omega) (by omega), q, by omega, ?_⟩
   rcases Nat.eq_zero_or_pos v with h0 | h0
   ·subst h0
    have hq0 : q = 0 := by omega
    subst hq0
    refine ⟨_, _, _, (by kernel_rfl : vSliceS Tryz.prog 3 (some ⟨h.next, 0, none⟩) 0 (cx 0) none (some 0) none = some (.slice (some ⟨h.next, 0, none⟩) 0 0)), aSorted (F := fun _ => True) (xs := []) ⟨rfl, .inr ⟨_, _, rfl⟩, fun h => absurd h (Nat.lt_irrefl _)⟩ (by omega) (fun c y z h => by omega) ⟨_, rfl, hK _ k4⟩⟩
   ·obtain ⟨K', hsl⟩ := sl_to (n := v) (g := h.next) (k := q) (by omega) h0
    have hris : Rising up q := by
     have := (nest_iff (up := up) h1 h2 (by omega) (fun a x y hx hy => hup.here a x y (by have := (List.getElem?_eq_some_iff.1 hx).1; omega) hx hy)).1 hne
     rwa [show (mostOf low).toNat = q by omega] at this
    have hsa : Sa cI (fun b => b = h.next) h4 (some ⟨h.next, 0, none⟩) q K' (up.take q) := by
     refine ⟨by rw [List.length_take]; omega, .inr ⟨_, _, rfl⟩, fun _ => ⟨h.next, 0, rfl, rfl, lt4, fun k x hk => ?_⟩⟩
     have hkl := (List.getElem?_eq_some_iff.1 hk).1
     rw [List.length_take] at hkl
     rw [List.getElem?_take, if_pos (by omega)] at hk
     refine ⟨[.int .i64 x], fun j u hu => ?_, rfl⟩
     match j, hu with
     | 0, hu =>
      obtain rfl := Option.some.inj hu
      show ldC h4 h.next (0 + (k * 1 + 0)) = _
      rw [ldC_bk b4, Nat.mul_one, Nat.add_zero, Nat.zero_add, List.getElem?_map, hk]; rfl
    refine ⟨_, _, _, hsl, aSorted hsa (by omega) (fun c y z hc hy hz => ?_) ⟨_, rfl, hK _ k4⟩⟩
    rw [List.getElem?_take, if_pos (by omega)] at hy hz
    exact hris c y z hc hy hz
theorem aPartCheck {p : List (List Int)} {nv : Nat} (hs : Sa cRows F h A n K p) (hp : PartOk nv p) (hK : ∀ h', Nw h h' → Q .nilIface h') : WC Tryz.prog 178 [.int .i64 nv, .agg #[.slice A n K], .slice none 0 0] h Q := by
 have hn := hs.len
 have h6 := hp.few
 have h1 := hp.some_
 have hnv := hp.nv_
 refine w_part_Check fun h1' e1 h2' e2 => ?_
 obtain ⟨k1, g1, z1⟩ := news e1
 obtain ⟨k2, g2, z2⟩ := news e2
 have k12 := k1.trans k2
 refine ⟨A, n, K, ldC_of (k2.bk (by omega) g1) rfl, fun h => absurd h (by omega), fun _ => ⟨fun h => absurd h (by omega), fun _ => ⟨fun h => absurd h (by omega), fun _ => ⟨fun h => absurd h (by omega), fun _ => ⟨_, _, _, ldC_of g2 rfl, fun h => absurd h (by decide), fun _ => ⟨A, n, K, ldC_of (k2.bk (by omega) g1) rfl, ?_⟩⟩⟩⟩⟩⟩
 refine ⟨fun m x h3 => ∃ i : Nat, x = i ∧ i ≤ n ∧ m = n - i ∧ Nw h2' h3, n, ⟨0, rfl, Nat.zero_le _, rfl, Nw.refl _⟩, ?_⟩
 rintro m x h3 ⟨i, rfl, hi, hm, k3⟩
 refine ⟨fun hlt => ?_, fun hge => hK h3 (k12.trans k3)⟩
 have hs3 := hs.nw (k12.trans k3)
 obtain ⟨b, o, A', n', K', row, hA, hF, hb, hr, e0, s0⟩ := hs3.row (k := i) (by omega)
 have hm := List.mem_of_getElem? hr
 have hrl : n' = nv := by rw [← s0.len]; exact hp.rows _ hm
 subst hrl
 have wi : IntKind.i64.wrap ((i : Int) + 1) = ((i + 1 : Nat) : Int) := by rw [Int.natCast_succ]; exact wr_ok (by omega) (by omega)
 refine ⟨i, rfl, b, o, hA, by omega, A', n', K', e0, fun h21 e21 => ?_⟩
 obtain ⟨h22, s22, k22, g22, z22⟩ := box_st (vs := [.int .i64 (i : Int)]) e21 rfl (by simp [flat])
 refine ⟨h22, s22, fun _ => aTally (s0.nw k22) hnv (hp.inr _ hm) (hp.full _ hm) fun A15 n15 K15 h23 k23 => ⟨_, _, _, _, rfl, fun _ => ⟨_, ldC_of (k23.bk (by omega) g22) rfl, fun hpos => ?_, fun hz => ?_⟩, fun h => Bool.noConfusion h⟩, fun h => absurd rfl h⟩
 ·have k323 := k3.trans (k22.trans k23)
  have hs23 := hs3.nw (k22.trans k23)
  obtain ⟨b', o', A2, n2, K2, low, hA', -, -, hlo, e0', s0'⟩ := hs23.row (k := i - 1) (by omega)
  have hml := List.mem_of_getElem? hlo
  have hll : n2 = n' := by rw [← s0'.len]; exact hp.rows _ hml
  subst hll
  refine ⟨A, n, K, ldC_of ((k2.trans k323).bk (by omega) g1) rfl, _, ldC_of (k23.bk (by omega) g22) rfl, _, wr_ok (by omega) (by omega), i - 1, by omega, b', o', hA', by omega, A2, n2, K2, e0', aNested s0' (s0.nw (k22.trans k23)) hnv (hp.inr _ hml) (hp.full _ hml) (hp.inr _ hm) (hp.nest (i - 1) low row hlo (by rw [show i - 1 + 1 = i by omega]; exact hr)) fun h24 k24 => ⟨_, rfl, fun _ => ⟨_, _, _, ldC_of ((k323.trans k24).bk (by omega) g2) rfl, fun h => absurd h (by decide), fun _ => ⟨_, wi, n - (i + 1), by omega, i + 1, rfl, by omega, rfl, k323.trans k24⟩⟩, fun h => Bool.noConfusion h⟩⟩
 ·have k323 := k3.trans (k22.trans k23)
  exact ⟨_, _, _, ldC_of (k323.bk (by omega) g2) rfl, fun h => absurd h (by decide), fun _ => ⟨_, wi, n - (i + 1), by omega, i + 1, rfl, by omega, rfl, k323⟩⟩
end
end Eva
end
section
open Go Go.RowKit
def slotL (N : NetD) (p : List (List Int)) (k : Nat) (xs : List Nat) (s : Nat) : List Nat := if s % 2 = 0 then xs.filter (fun a => decide (cel p k (N.to a) = s / 2)) else xs.filter (fun a => decide (cel p k (N.fr a) = s / 2))
section
variable {N : NetD} {p : List (List Int)} {k : Nat}
theorem slotL_next (xs : List Nat) (a : Nat) : upd (upd (slotL N p k xs) (cel p k (N.to a) * 2) (slotL N p k xs (cel p k (N.to a) * 2) ++ [a])) (cel p k (N.fr a) * 2 + 1) (upd (slotL N p k xs) (cel p k (N.to a) * 2) (slotL N p k xs (cel p k (N.to a) * 2) ++ [a]) (cel p k (N.fr a) * 2 + 1) ++ [a]) = slotL N p k (xs ++ [a]) := by
 funext s
 have hne : cel p k (N.fr a) * 2 + 1 ≠ cel p k (N.to a) * 2 := by omega
 unfold upd
 rw [if_neg hne]
 by_cases h1 : s = cel p k (N.fr a) * 2 + 1
 ·subst h1
  rw [if_pos rfl]
  unfold slotL
  rw [if_neg (by omega), if_neg (by omega), List.filter_append]
  have : (cel p k (N.fr a) * 2 + 1) / 2 = cel p k (N.fr a) := by omega
  simp [this]
 ·rw [if_neg h1]
  by_cases h2 : s = cel p k (N.to a) * 2
  ·subst h2
   rw [if_pos rfl]
   unfold slotL
   rw [if_pos (by omega), if_pos (by omega), List.filter_append]
   have : (cel p k (N.to a) * 2) / 2 = cel p k (N.to a) := by omega
   simp [this]
  ·rw [if_neg h2]
   unfold slotL
   by_cases h3 : s % 2 = 0
   ·rw [if_pos h3, if_pos h3, List.filter_append]
    have : ¬ cel p k (N.to a) = s / 2 := by omega
    simp [this]
   ·rw [if_neg h3, if_neg h3, List.filter_append]
    have : ¬ cel p k (N.fr a) = s / 2 := by omega
    simp [this]
theorem slotL_ins (c : Nat) : slotL N p k (takeN (N.crB p k) N.na) (c * 2) = N.ins p k c := by
 unfold slotL
 rw [if_pos (by omega), show c * 2 / 2 = c by omega]
 unfold takeN NetD.ins takeN
 rw [List.filter_filter]
 apply List.filter_congr
 intro a _
 unfold NetD.crB NetD.insB
 by_cases h1 : cel p k (N.to a) = c
 ·simp [h1]
 ·simp [h1]
theorem slotL_outs (c : Nat) : slotL N p k (takeN (N.crB p k) N.na) (c * 2 + 1) = N.outs p k c := by
 unfold slotL
 rw [if_neg (by omega), show (c * 2 + 1) / 2 = c by omega]
 unfold takeN NetD.outs takeN
 rw [List.filter_filter]
 apply List.filter_congr
 intro a _
 unfold NetD.crB NetD.outsB
 by_cases h1 : cel p k (N.fr a) = c
 ·simp [h1, eq_comm]
 ·simp [h1]
theorem slotL_len (xs : List Nat) (s : Nat) : (slotL N p k xs s).length ≤ xs.length := by
 unfold slotL
 split <;> exact List.length_filter_le _ _
end
namespace Eva
section
variable {h h' : AH} {Fa F Fp : Nat → Prop} {g : Nat} {N : NetD} {p : List (List Int)} {Q : Value → AH → Prop} {A : Option Addr} {n K : Nat}
theorem eqok1 {A : Option Addr} {n K : Nat} (h : EqOk (.slice A n K)) : EqOk (.agg #[.slice A n K]) := by
 intro v hv
 have hv' : v = .slice A n K := by simpa using hv
 subst hv'
 cases A with
 | none => trivial
 | some a => exact h
theorem aGateOf (G : GrA h Fa F g N) (hp : PartOk N.nv p) (hs : Sa cRows Fp h A n K p)
  (hK : ∀ A' n' K' h', Sa (Rc.slice Rc.gate) (fun b => h.next ≤ b) h' A' n' K' ((List.range p.length).map fun j => N.gatesL p (j + 1)) → Nw h h' → Q (.slice A' n' K') h') : WC Tryz.prog 197 [.pointer (some ⟨g, 0, none⟩), .agg #[.slice A n K]] h Q := by
 have hn := hs.len
 have h6 := hp.few
 have hna := G.few.2
 have hnv := G.few.1
 refine w_gate_Of fun h1 e1 => ?_
 obtain ⟨k1, g1, z1⟩ := news e1
 have box : ∀ {h'}, Nw h1 h' → ldN h' h.next 0 1 = some [.slice A n K] := fun a => ldN1 (ldC_of (a.bk (by omega) g1) rfl)
 refine ⟨A, n, K, box (Nw.refl _), aVerts (G.nw k1) ⟨_, rfl, box (Nw.refl _), eqok1 hs.eqok, aPartCheck (hs.nw k1) hp fun h3 k3 => ⟨none, rfl, fun _ => ⟨A, n, K, ldC_of (k3.bk (by omega) g1) rfl, by omega, fun h4 e4 => ?_⟩, fun t u h => by cases h⟩⟩⟩
 obtain ⟨k4, g4, z4⟩ := news e4
 rw [rep_one] at g4
 have k14 := k3.trans k4
 have z1' := k14.next
 have z3 := k3.next
 refine ⟨A, n, K, ldC_of (k14.bk (by omega) g1) rfl, fun m x h5 => ∃ (i : Nat) (B : Nat → Nat), x = i ∧ i ≤ n ∧ m = n - i ∧ Nw h1 h5 ∧ h4.next ≤ h5.next ∧
  Bk h5 h3.next ((List.range n).map fun k => if k < i then Value.slice (some ⟨B k, 0, none⟩) (most p (k + 1)) (cx (most p (k + 1))) else .slice none 0 0) 100 ∧ (∀ k, k < i → Sa Rc.gate (fun z => h4.next ≤ z) h5 (some ⟨B k, 0, none⟩) (most p (k + 1)) (cx (most p (k + 1))) (N.gatesL p (k + 1))), n, ⟨0, fun _ => 0, rfl, Nat.zero_le _, rfl, k14, Nat.le_refl _, ?_, fun k h => absurd h (by omega)⟩, ?_⟩
 ·have e : (List.range n).map (fun k => if k < 0 then Value.slice (some ⟨0, 0, none⟩) (most p (k + 1)) (cx (most p (k + 1))) else .slice none 0 0) = List.replicate n (.slice none 0 0) := by
   have : (fun k => if k < 0 then Value.slice (some ⟨0, 0, none⟩) (most p (k + 1)) (cx (most p (k + 1))) else Value.slice none 0 0) = fun _ => Value.slice none 0 0 := by funext k; rw [if_neg (by omega)]
   rw [this, List.map_const', List.length_range]
  rw [e]
  exact g4
 rintro m x h5 ⟨i, B, rfl, hi, hm, k5, lt5, b5, sg5⟩
 refine ⟨fun hlt => ?_, fun hge => ?_⟩
 ·have hs5 := hs.nw (k1.trans k5)
  obtain ⟨b, o, A5, n5, K5, row, hA, hF, hbl, hr, e0, s5⟩ := hs5.row (k := i) (by omega)
  have wi : IntKind.i64.wrap ((i : Int) + 1) = ((i + 1 : Nat) : Int) := by rw [Int.natCast_succ]; exact wr_ok (by omega) (by omega)
  have hr' : p[i + 1 - 1]? = some row := by rw [Nat.add_sub_cancel]; exact hr
  obtain ⟨hrl, hrx⟩ := part_row hp hr'
  have hn5 : n5 = N.nv := by rw [← s5.len]; exact hrl
  have hmf := most_le hp (k := i + 1) (by omega) (by omega)
  refine ⟨i, rfl, b, o, hA, by omega, A5, n5, K5, e0, A, n, K, box k5, _, wi, aCount hp hs5 (by omega) (by omega) fun h6 k6 => ⟨_, rfl, most p (i + 1), rfl, by omega, fun h7 e7 => ?_⟩⟩
  obtain ⟨k7, g7, z7⟩ := news e7
  rw [rep_two] at g7
  have k57 := k6.trans k7
  refine ⟨A, n, K, box (k5.trans k57), _, wi, aCross (G.nw ((k1.trans k5).trans k57)) hp (hs5.nw k57) (by omega) (by omega) fun A8 n8 K8 h8 s8 k8 => ⟨_, _, _, rfl, ?_⟩⟩
  obtain ⟨xs, hxs⟩ : ∃ xs, takeN (N.crB p (i + 1)) N.na = xs := ⟨_, rfl⟩
  rw [hxs] at s8
  have hx8 : xs.length = n8 := by have := s8.len; simpa [ints] using this
  have hxl : xs.length ≤ N.na := by rw [← hxs]; exact takeN_len _ _
  have k58 := k57.trans k8
  have z6 := k6.next
  have z8 := k8.next
  have z5 := k5.next
  have S8 : Slots h8 h8.next h6.next (most p (i + 1) * 2) 99 (slotL N p (i + 1) []) := by
   have e : slotL N p (i + 1) [] = fun _ => [] := by funext s; unfold slotL; split <;> rfl
   rw [e]
   exact Slots.new (k8.bk (by omega) g7) (by omega)
  refine ⟨fun m x h9 => ∃ j : Nat, x = j ∧ j ≤ n8 ∧ m = n8 - j ∧ Nw h5 h9 ∧ Slots h9 h8.next h6.next (most p (i + 1) * 2) 99 (slotL N p (i + 1) (xs.take j)) ∧ Sa cI (fun z => h7.next ≤ z ∧ z < h8.next) h9 A8 n8 K8 (ints xs), n8, ⟨0, rfl, Nat.zero_le _, rfl, k58, by rw [List.take_zero]; exact S8, s8.mono fun z hz hlt => ⟨hz, hlt⟩⟩, ?_⟩
  rintro m' x h9 ⟨j, rfl, hj, hm', k9, S9, s9⟩
  refine ⟨fun hlt' => ?_, fun hge' => ?_⟩
  ·obtain ⟨b8, o8, y, hA8, -, -, hy, e8⟩ := s9.int (k := j) (by omega)
   obtain ⟨a, ha, rfl⟩ : ∃ a : Nat, xs[j]? = some a ∧ y = (a : Int) := by
    unfold ints at hy
    rw [List.getElem?_map] at hy
    cases hv : xs[j]? with
    | none => rw [hv] at hy; cases hy
    | some a => rw [hv] at hy; exact ⟨a, rfl, (Option.some.inj hy).symm⟩
   have han : a < N.na := by
    have := List.mem_of_getElem? ha
    rw [← hxs] at this
    unfold takeN at this
    exact List.mem_range.1 (List.mem_filter.1 this).1
   have G9 := G.nw ((k1.trans k5).trans k9)
   have hto := (NetD.to_lt G.ok han).1
   have hfr := (NetD.fr_lt G.ok han).1
   have s59 := s5.nw k9
   obtain ⟨bt, ot, xt, hAt, -, -, hyt, et⟩ := s59.int (k := N.to a) (by omega)
   obtain ⟨bf, of_, xf, hAf, -, -, hyf, ef⟩ := s59.int (k := N.fr a) (by omega)
   rw [hAt] at hAf
   injection hAf with hAf
   injection hAf with hA1 hA2
   subst hA1 hA2
   obtain ⟨ut, hut, ut0, -⟩ := hrx _ hto
   obtain ⟨uf, huf, uf0, -⟩ := hrx _ hfr
   rw [hyt] at hut
   rw [hyf] at huf
   obtain rfl := Option.some.inj hut
   obtain rfl := Option.some.inj huf
   have ct : xt = ((cel p (i + 1) (N.to a) : Nat) : Int) := by rw [cel_row hr' hyt]; omega
   have cf : xf = ((cel p (i + 1) (N.fr a) : Nat) : Int) := by rw [cel_row hr' hyf]; omega
   have ht1 := cel_most hp (k := i + 1) (by omega) (by omega) hto
   have hf1 := cel_most hp (k := i + 1) (by omega) (by omega) hfr
   have hsl1 := slotL_len (N := N) (p := p) (k := i + 1) (xs.take j) (cel p (i + 1) (N.to a) * 2)
   have htl : (xs.take j).length ≤ xs.length := by rw [List.length_take]; omega
   have wj : IntKind.i64.wrap ((j : Int) + 1) = ((j + 1 : Nat) : Int) := by rw [Int.natCast_succ]; exact wr_ok (by omega) (by omega)
   refine ⟨j, rfl, b8, o8, hA8, by omega, _, e8, aTo G9 han ⟨_, rfl, _, rfl, bt, ot, hAt, by omega, _, et, cel p (i + 1) (N.to a), ct, ht1, aFrom G9 han ⟨_, rfl, by rw [← ct]; exact et, _, rfl, by omega, _, ef, cel p (i + 1) (N.fr a), cf, hf1, ?_⟩⟩⟩
   obtain ⟨A9, n9, K9, l9, H9⟩ := S9.app (s := cel p (i + 1) (N.to a) * 2) (by omega) a (by omega)
   refine ⟨A9, n9, K9, l9, fun h12 e12 => ?_⟩
   obtain ⟨A10, n10, K10, h13, y13, h14, s14, S14, m14⟩ := H9 h12 e12
   have z14 := m14.next
   have z9 := k9.next
   have hz2 : (upd (slotL N p (i + 1) (xs.take j)) (cel p (i + 1) (N.to a) * 2) (slotL N p (i + 1) (xs.take j) (cel p (i + 1) (N.to a) * 2) ++ [a]) (cel p (i + 1) (N.fr a) * 2 + 1)).length ≤ 100000 := by
    unfold upd
    rw [if_neg (by omega)]
    have := slotL_len (N := N) (p := p) (k := i + 1) (xs.take j) (cel p (i + 1) (N.fr a) * 2 + 1)
    omega
   obtain ⟨A11, n11, K11, l11, H11⟩ := S14.app (s := cel p (i + 1) (N.fr a) * 2 + 1) (by omega) a hz2
   refine ⟨A10, n10, K10, h13, y13, h14, s14, A11, n11, K11, l11, fun h15 e15 => ?_⟩
   obtain ⟨A12, n12, K12, h16, y16, h17, s17, S17, m17⟩ := H11 h15 e15
   rw [slotL_next] at S17
   have m917 : Mt (fun z => z = h6.next ∨ h8.next ≤ z) h9 h17 := m14.then m17
   have htk : xs.take (j + 1) = xs.take j ++ [a] := by rw [List.take_add_one, ha]; rfl
   refine ⟨A12, n12, K12, h16, y16, h17, s17, _, wj, n8 - (j + 1), by omega, j + 1, rfl, by omega, rfl, m917.is_nw k9 fun z hz => by omega, by rw [htk]; exact S17, s9.off m917 fun z hz h => by omega⟩
  ·obtain rfl : j = n8 := by omega
   rw [List.take_of_length_le (by omega)] at S9
   have z9 := k9.next
   obtain ⟨h18, s18, b18, z18, o18⟩ := st_one (v := .slice (some ⟨h6.next, 0, none⟩) (most p (i + 1)) (cx (most p (i + 1)))) (k9.bk (by omega) b5) (o := 0 + i) (by simp; omega) rfl
   have m18 : Mt (fun z => z = h3.next) h9 h18 := ⟨by omega, fun z _ hn => o18 z hn⟩
   have gt := (S9.gates (K := cx (most p (i + 1))))
   have eg : ((List.range (most p (i + 1))).map fun c => (ints (slotL N p (i + 1) xs (c * 2)), ints (slotL N p (i + 1) xs (c * 2 + 1)))) = N.gatesL p (i + 1) := by
    unfold NetD.gatesL
    apply List.map_congr_left
    intro c _
    rw [← hxs, slotL_ins, slotL_outs]
   rw [eg] at gt
   have hs9 := S9.pos
   refine ⟨by omega, h18, s18, _, wi, n - (i + 1), by omega, i + 1, upd B i h6.next, rfl, by omega, rfl, m18.is_nw (k5.trans k9) fun z hz => by omega, by omega, ?_, fun k hk => ?_⟩
   ·rw [Nat.zero_add, map_updS (by omega)] at b18
    have e : (fun k => if k < i + 1 then Value.slice (some ⟨upd B i h6.next k, 0, none⟩) (most p (k + 1)) (cx (most p (k + 1))) else .slice none 0 0) = upd (fun k => if k < i then Value.slice (some ⟨B k, 0, none⟩) (most p (k + 1)) (cx (most p (k + 1))) else .slice none 0 0) i (.slice (some ⟨h6.next, 0, none⟩) (most p (i + 1)) (cx (most p (i + 1)))) := by
     funext k
     unfold upd
     by_cases e : k = i
     ·subst e
      rw [if_pos (by omega), if_pos rfl, if_pos rfl]
     ·rw [if_neg e, if_neg e]
      by_cases e2 : k < i
      ·simp only [if_pos e2, if_pos (show k < i + 1 by omega)]
      ·simp only [if_neg e2, if_neg (show ¬ k < i + 1 by omega)]
    rw [e]
    exact b18
   ·unfold upd
    by_cases e : k = i
    ·subst e
     rw [if_pos rfl]
     exact ((gt.mono fun z hz _ => (by omega : h4.next ≤ z)).off m18 fun z hz e => by omega)
    ·rw [if_neg e]
     exact ((sg5 k (by omega)).nw k9).off m18 fun z hz e => by omega
 ·obtain rfl : i = n := by omega
  refine hK _ _ _ h5 (Sa.of_bk b5 (by simp [hn]) (by omega) (by omega) fun k x hx => ?_) (k1.trans k5)
  have hk : k < i := by have := (List.getElem?_eq_some_iff.1 hx).1; simp at this; omega
  have hx' : x = N.gatesL p (k + 1) := by
   have hk' : k < p.length := by omega
   simp [hk'] at hx; exact hx.symm
  subst hx'
  refine ⟨some ⟨B k, 0, none⟩, most p (k + 1), cx (most p (k + 1)), ?_, (sg5 k hk).mono fun z hz _ => by omega⟩
  show ((((List.range i).map fun k => if k < i then Value.slice (some ⟨B k, 0, none⟩) (most p (k + 1)) (cx (most p (k + 1))) else .slice none 0 0).drop (k * 1)).take 1) = _
  rw [Nat.mul_one]
  exact take_one' (by rw [List.getElem?_map, List.getElem?_range hk]; simp [hk])
end
end Eva
end
section
open Go Go.RowKit
namespace Eva
structure LS (h0 : AH) (C rb sb D db hb hp outs n Kr : Nat) (pre post : List Int) (done : Nat → Option Nat) (sum : Nat) (h : AH) (row : List Int) (q : Nat → Option Nat) : Prop where
 nw : Nw h0 h
 lo : h0.next ≤ C ∧ h0.next ≤ rb ∧ h0.next ≤ sb ∧ h0.next ≤ D ∧ h0.next ≤ db ∧ h0.next ≤ hb
 lt : C < h.next ∧ rb < h.next ∧ sb < h.next ∧ D < h.next ∧ db < h.next ∧ hb < h.next
 ne : C ≠ rb ∧ C ≠ sb ∧ C ≠ D ∧ C ≠ db ∧ C ≠ hb
 cst : Bk h C ((pre ++ row ++ post).map (Value.int .i64)) 2
 len : row.length = outs
 rbx : Bk h rb [.slice (some ⟨C, pre.length, none⟩) outs Kr] 36
 sbx : Bk h sb [.int .i64 (sum : Int)] 2
 dbl : Bk h D (((List.range n).map fun a => (done a).isSome).map Value.bool) 4
 dbx : Bk h db [.slice (some ⟨D, 0, none⟩) n (cx n)] 167
 hbx : Bk h hb [.pointer (some ⟨hp, 0, none⟩)] 122
 heap : ∃ S, HeapQA h S hp n q ∧ (∀ b, S b → h0.next + 1 ≤ b) ∧ ¬ S C ∧ ¬ S rb ∧ ¬ S sb ∧ ¬ S D ∧ ¬ S db ∧ ¬ S hb
section
variable {h0 h h' : AH} {C rb sb D db hb hp outs n Kr : Nat} {pre post : List Int} {done : Nat → Option Nat} {sum : Nat} {row : List Int} {q : Nat → Option Nat} {Q : Value → AH → Prop}
theorem LS.next (L : LS h0 C rb sb D db hb hp outs n Kr pre post done sum h row q) (a : Nw h h') : LS h0 C rb sb D db hb hp outs n Kr pre post done sum h' row q := by
 obtain ⟨S, h1, h2⟩ := L.heap
 obtain ⟨l1, l2, l3, l4, l5, l6⟩ := L.lt
 have := a.next
 exact ⟨L.nw.trans a, L.lo, ⟨by omega, by omega, by omega, by omega, by omega, by omega⟩, L.ne, a.bk l1 L.cst, L.len, a.bk l2 L.rbx, a.bk l3 L.sbx, a.bk l4 L.dbl, a.bk l5 L.dbx, a.bk l6 L.hbx, S, h1.nw a, h2⟩
theorem bools_ld {b k : Nat} {xs : List Bool} {x : Bool} {t : TypeId} (hb : Bk h b (xs.map Value.bool) t) (hx : xs[k]? = some x) : ldC h b (0 + k) = some (.bool x) := by
 rw [ldC_bk hb, Nat.zero_add]
 simp [hx]
theorem at_get {l : List Int} {k : Nat} (hk : k < l.length) : l[k]? = some (at_ l k) := by
 unfold at_
 rw [List.getElem?_eq_getElem hk]; rfl
theorem fTell {M : Nat} (L : LS h0 C rb sb D db hb hp outs n Kr pre post done sum h row q) {s : Stp} (hs : 0 ≤ s.2.2 ∧ s.2.2 ≤ M ∧ (s.2.1 < 0 → 0 ≤ s.1 ∧ s.1 < n) ∧ s.2.1 < outs) (hM : sum + M ≤ 1152921504606846976) (hC : h0.next ≠ C)
  (hK : ∀ h', LS h0 C rb sb D db hb hp outs n Kr pre post done sum h' (stepS done sum (row, q) s).1 (stepS done sum (row, q) s).2 → h'.get h0.next = h.get h0.next → Q (.tuple #[]) h') :
  WC Tryz.prog 205 [.agg #[.int .i64 s.1, .int .i64 s.2.1, .int .i64 s.2.2], .pointer (some ⟨rb, 0, none⟩), .pointer (some ⟨sb, 0, none⟩), .pointer (some ⟨db, 0, none⟩), .pointer (some ⟨hb, 0, none⟩)] h Q := by
 obtain ⟨s1, s2, s3⟩ := s
 simp only at hs
 obtain ⟨c0, c1, ct, co⟩ := hs
 have hlt0 : h0.next < h.next := by have := L.lo; have := L.lt; omega
 refine w_fill_field_least_1 fun h1 e1 => ?_
 obtain ⟨k1, g1, z1⟩ := news e1
 have L1 := L.next k1
 have y0 : ldC h1 h.next 0 = some (.int .i64 s1) := ldC_of g1 rfl
 have y1 : ldC h1 h.next 1 = some (.int .i64 s2) := ldC_of g1 rfl
 have y2 : ldC h1 h.next 2 = some (.int .i64 s3) := ldC_of g1 rfl
 have r0 : ldC h1 rb 0 = some (.slice (some ⟨C, pre.length, none⟩) outs Kr) := ldC_of L1.rbx rfl
 have t0 : ldC h1 sb 0 = some (.int .i64 (sum : Int)) := ldC_of L1.sbx rfl
 have d0 : ldC h1 db 0 = some (.slice (some ⟨D, 0, none⟩) n (cx n)) := ldC_of L1.dbx rfl
 have p0 : ldC h1 hb 0 = some (.pointer (some ⟨hp, 0, none⟩)) := ldC_of L1.hbx rfl
 have w1 : IntKind.i64.wrap ((sum : Int) + s3) = (sum : Int) + s3 := wr_ok (by omega) (by omega)
 obtain ⟨l1, l2, l3, l4, l5, l6⟩ := L1.lt
 obtain ⟨n1, n2, n3, n4, n5⟩ := L1.ne
 refine ⟨_, y1, fun ho => ?_, fun ho => ?_⟩
 ·obtain ⟨o, rfl⟩ := Int.eq_ofNat_of_zero_le ho
  have hlt : o < outs := by omega
  have hrow := L1.len
  have x7 : ldC h1 C (pre.length + o) = some (.int .i64 (at_ row o)) := by
   rw [ldC_bk L1.cst, List.map_append, List.map_append, List.append_assoc, List.getElem?_append_right (by simp), List.length_map, Nat.add_sub_cancel_left, List.getElem?_append_left (by simp; omega), List.getElem?_map, at_get (by omega)]
   rfl
  have hmin : (if ((sum : Int) + s3) < at_ row o then (sum : Int) + s3 else at_ row o) = min (at_ row o) (sum + s3) := by
   rw [Int.min_def]
   split <;> split <;> omega
  obtain ⟨h2, q1, q2, q3, q4⟩ := st_one (v := .int .i64 (min (at_ row o) (sum + s3))) L1.cst (o := pre.length + o) (by simp; omega) rfl
  refine ⟨_, _, rfl, _, _, _, r0, _, y1, _, _, _, r0, _, y1, o, rfl, _, _, rfl, hlt, _, x7, _, _, rfl, _, t0, _, y2, _, w1, _, hmin, o, rfl, _, _, rfl, hlt, h2, q1, hK h2 ?_ ((q4 _ hC).trans (k1.get _ hlt0))⟩
  have hst : stepS done sum (row, q) ((s1, (o : Int), s3) : Stp) = (row.set o (min (at_ row o) (sum + s3)), q) := by
   rw [stepS, if_pos (by exact Int.natCast_nonneg o)]
   rfl
  obtain ⟨S, p1, p2, p3, p4⟩ := L1.heap
  rw [hst]
  refine ⟨⟨by have := L1.nw.next; omega, fun b hb => (q4 b (by have := L1.lo.1; omega)).trans (L1.nw.get b hb)⟩, L1.lo, ⟨by omega, by omega, by omega, by omega, by omega, by omega⟩, L1.ne, ?_, by simp [hrow], (q4 _ (Ne.symm n1)).trans L1.rbx, (q4 _ (Ne.symm n2)).trans L1.sbx, (q4 _ (Ne.symm n3)).trans L1.dbl, (q4 _ (Ne.symm n4)).trans L1.dbx, (q4 _ (Ne.symm n5)).trans L1.hbx, S, p1.off (S' := fun b => b = C) ⟨by omega, fun b _ hb => q4 b hb⟩ (fun b hb e => p3 (e ▸ hb)), p2, p3, p4⟩
  rw [← List.map_set] at q2
  rw [List.append_assoc, List.set_append_right _ _ (by omega), Nat.add_sub_cancel_left, List.set_append_left _ _ (by omega), ← List.append_assoc] at q2
  exact q2
 ·obtain ⟨ht0, ht1⟩ := ct (by omega)
  obtain ⟨r, rfl⟩ := Int.eq_ofNat_of_zero_le ht0
  have hrn : r < n := by omega
  have hst : stepS done sum (row, q) ((((r : Nat) : Int), s2, s3) : Stp) = if done r = none then (row, putQ q r (sum + s3.toNat)) else (row, q) := by
   rw [stepS, if_neg ho]
   simp only [Int.toNat_natCast]
  have hd : ldC h1 D (0 + r) = some (.bool (done r).isSome) := bools_ld L1.dbl (by simp [hrn])
  refine ⟨_, _, rfl, _, _, _, d0, _, y0, r, rfl, _, _, rfl, hrn, _, hd, fun hb => ?_, fun hb => ?_⟩
  ·refine hK h1 ?_ (k1.get _ hlt0)
   rw [hst, if_neg (by intro e; rw [e] at hb; cases hb)]
   exact L1
  ·have hdn : done r = none := by cases hdr : done r with | none => rfl | some x => rw [hdr] at hb; cases hb
   obtain ⟨S, p1, p2, p3, p4, p5, p6, p7, p8⟩ := L1.heap
   refine ⟨_, _, rfl, _, p0, _, y0, _, _, rfl, _, t0, _, y2, _, w1, hPut p1 hrn (by omega) (by omega) fun h2 S' H2 m2 g2 => ⟨_, rfl, hK h2 ?_ ((m2.get _ (by omega) (fun hs => by have := p2 _ hs; omega)).trans (k1.get _ hlt0))⟩⟩
   rw [hst, if_pos hdn]
   have hz : ((sum : Int) + s3).toNat = sum + s3.toNat := by omega
   rw [hz] at H2
   have hm := m2.next
   have notS : ∀ {b}, b < h1.next → ¬ S b → ¬ S' b := fun hb hn hs => (g2 _ hs).elim hn (fun h => by omega)
   exact ⟨⟨by have := L1.nw.next; omega, fun b hb => (m2.get b (by have := L1.nw.next; omega) (fun hs => by have := p2 b hs; omega)).trans (L1.nw.get b hb)⟩, L1.lo, ⟨by omega, by omega, by omega, by omega, by omega, by omega⟩, L1.ne, m2.bk l1 p3 L1.cst, L1.len, m2.bk l2 p4 L1.rbx, m2.bk l3 p5 L1.sbx, m2.bk l4 p6 L1.dbl, m2.bk l5 p7 L1.dbx, m2.bk l6 p8 L1.hbx, S', H2, fun b hb => (g2 b hb).elim (p2 b) (fun h => by have := L.nw.next; omega), notS l1 p3, notS l2 p4, notS l3 p5, notS l4 p6, notS l5 p7, notS l6 p8⟩
end
def NextOk (h0 : AH) (g : Nat) (fb : Array Value) (n : Nat) (steps : Nat → List Stp) : Prop :=
 goesTo Tryz.prog g = true ∧ ∀ a, a < n → ∀ (h : AH) (tg : Nat) (tfb : Array Value) (J : Nat → AH → Prop) (Q : Value → AH → Prop), (∀ k h1, J k h1 → Nw h0 h1) → (∀ k h1 h2, J k h1 → Nw h1 h2 → J k h2) → goesTo Tryz.prog tg = true →
  (∀ k s h1 (Q' : Value → AH → Prop), J k h1 → (steps a)[k]? = some s → (∀ h2, J (k + 1) h2 → Q' (.tuple #[]) h2) → WC Tryz.prog tg ([.agg #[.int .i64 s.1, .int .i64 s.2.1, .int .i64 s.2.2]] ++ tfb.toList) h1 Q') →
  J 0 h → (∀ h', J (steps a).length h' → Q (.tuple #[]) h') → WC Tryz.prog g ([.int .i64 (a : Int), .func (.func tg) #[] tfb] ++ fb.toList) h Q
end Eva
end
section
open Go Go.RowKit
namespace Eva
theorem sl_even {P : Program} {e C n lo hi : Nat} (hT : ∃ i, P.info? e = some i ∧ i.size = 1) (h1 : lo ≤ hi) (h2 : hi ≤ n) (h3 : lo < n ∨ lo = 0) : vSliceS P e (some ⟨C, 0, none⟩) n (cx n) (some lo) (some hi) none = some (.slice (some ⟨C, lo, none⟩) (hi - lo) (cx (n - lo))) := by
 obtain ⟨i, hi', hsz⟩ := hT
 unfold vSliceS
 rw [hi']
 have hc2 : (cx n) / 2 = n := by unfold cx; omega
 have hp : Nat.beq ((cx n) % 2) 0 = true := by
  have : (cx n) % 2 = 0 := by unfold cx; omega
  rw [this]; rfl
 have hb1 : Nat.ble hi ((cx n) / 2) = true := Nat.ble_eq_true_of_le (by omega)
 have hb0 : Nat.ble lo hi = true := Nat.ble_eq_true_of_le h1
 show cond (Option.isNone (none : Option Nat) || Option.isSome (some hi)) (sliceV i.size (some ⟨C, 0, none⟩) n (cx n) ((some lo).getD 0) (some hi) none) none = _
 simp only [Option.isNone_none, Bool.true_or, cond_true, Option.getD_some]
 unfold sliceV
 simp only [Option.getD_some, hb1, hb0, Bool.and_self, cond_true, hp]
 unfold sliceX addAt
 rw [hc2, hsz, Nat.mul_one]
 rcases h3 with h3 | h3
 ·have hne : Nat.beq n lo = false := by
   cases hb : Nat.beq n lo with
   | false => rfl
   | true => have := beq_eq hb; omega
  rw [hne]
  simp only [cond_false, Option.map_some]
  unfold Addr.add
  split
  ·rename_i h0; rw [h0]
  ·simp
 ·subst h3
  cases Nat.beq n 0 <;> rfl
theorem ty64 : tyB Tryz.prog 2 1 8 = true := by kernel_rfl
structure LS0 (h0 : AH) (C rb D db hb hp outs n Kr : Nat) (pre post : List Int) (done : Nat → Option Nat) (h : AH) (row : List Int) (q : Nat → Option Nat) : Prop where
 nw : Nw h0 h
 lo : h0.next ≤ C ∧ h0.next ≤ rb ∧ h0.next ≤ D ∧ h0.next ≤ db ∧ h0.next ≤ hb
 lt : C < h.next ∧ rb < h.next ∧ D < h.next ∧ db < h.next ∧ hb < h.next
 ne : C ≠ rb ∧ C ≠ D ∧ C ≠ db ∧ C ≠ hb ∧ D ≠ rb ∧ D ≠ db ∧ D ≠ hb
 cst : Bk h C ((pre ++ row ++ post).map (Value.int .i64)) 2
 len : row.length = outs
 rbx : Bk h rb [.slice (some ⟨C, pre.length, none⟩) outs Kr] 36
 dbl : Bk h D (((List.range n).map fun a => (done a).isSome).map Value.bool) 4
 dbx : Bk h db [.slice (some ⟨D, 0, none⟩) n (cx n)] 167
 hbx : Bk h hb [.pointer (some ⟨hp, 0, none⟩)] 122
 heap : ∃ S, HeapQA h S hp n q ∧ (∀ b, S b → h0.next + 1 ≤ b) ∧ ¬ S C ∧ ¬ S rb ∧ ¬ S D ∧ ¬ S db ∧ ¬ S hb ∧ ∀ b, S b → b < h.next
def cntD (done : Nat → Option Nat) (n : Nat) : Nat := ((List.range n).filter fun a => (done a).isSome).length
theorem cntD_le (done : Nat → Option Nat) (n : Nat) : cntD done n ≤ n := Nat.le_trans (List.length_filter_le _ _) (by simp)
theorem cntD_upd {done : Nat → Option Nat} {k c : Nat} (hd : done k = none) : ∀ n, k < n → cntD (upd done k (some c)) n = cntD done n + 1
 | 0, h => by omega
 | n + 1, h => by
  unfold cntD
  rw [List.range_succ, List.filter_append, List.filter_append, List.length_append, List.length_append]
  by_cases e : k = n
  ·subst e
   have h1 : ∀ a ∈ List.range k, ((upd done k (some c)) a).isSome = (done a).isSome := fun a ha => by
    have : a ≠ k := by simp at ha; omega
    simp [upd, this]
   rw [List.filter_congr h1]
   simp [upd, hd]
  ·have ih := cntD_upd (c := c) hd n (by omega)
   unfold cntD at ih
   rw [ih]
   have : (upd done k (some c)) n = done n := by simp [upd, Ne.symm e]
   simp only [List.filter_cons, List.filter_nil, this]
   omega
theorem cntD_lt {done : Nat → Option Nat} {k : Nat} (hd : done k = none) {n : Nat} (hk : k < n) : cntD done n < n := by
 have h1 := cntD_upd (c := 0) hd n hk
 have h2 := cntD_le (upd done k (some 0)) n
 omega
section
variable {h : AH} {Q : Value → AH → Prop} {F : Nat → Prop} {A : Option Addr} {m K g outs n M : Nat} {fb : Array Value} {starts : List Nat} {steps : Nat → List Stp}
theorem LS0.keep1 {h0 h' : AH} {C rb D db hb hp Kr : Nat} {pre post row : List Int} {done q : Nat → Option Nat} (L : LS0 h0 C rb D db hb hp outs n Kr pre post done h row q) (a : Nw h h') : LS0 h0 C rb D db hb hp outs n Kr pre post done h' row q := by
 obtain ⟨S, h1, h2, h3, h4, h5, h6, h7, h8⟩ := L.heap
 obtain ⟨l1, l2, l3, l4, l5⟩ := L.lt
 have := a.next
 exact ⟨L.nw.trans a, L.lo, ⟨by omega, by omega, by omega, by omega, by omega⟩, L.ne, a.bk l1 L.cst, L.len, a.bk l2 L.rbx, a.bk l3 L.dbl, a.bk l4 L.dbx, a.bk l5 L.hbx, S, h1.nw a, h2, h3, h4, h5, h6, h7, fun b hb => by have := h8 b hb; omega⟩
theorem fRound {q0 k c : Nat} {row : List Int} {done q : Nat → Option Nat} (hF : FldOk n outs M steps) (hM : M * (n + 1) < 1152921504606846976)
  (hd : Dij INFN (eF steps) q0 done (finQ INFN q)) (hr : RowInv outs steps done row) (hf : Few M (cntD done n) q) (hk : q k = some c) (hkn : k < n) (hm : ∀ b c', q b = some c' → c ≤ c') :
  done k = none ∧ c + M ≤ 1152921504606846976 ∧ Dij INFN (eF steps) q0 (upd done k (some c)) (finQ INFN (foldS (upd done k (some c)) c (steps k) (row, del q k)).2) ∧ RowInv outs steps (upd done k (some c)) (foldS (upd done k (some c)) c (steps k) (row, del q k)).1 ∧
   Few M (cntD (upd done k (some c)) n) (foldS (upd done k (some c)) c (steps k) (row, del q k)).2 := by
 have hcM := hf k c hk
 have hmul : M * cntD done n ≤ M * n := Nat.mul_le_mul_left _ (cntD_le _ _)
 have hmul2 : M * (n + 1) = M * n + M := by rw [Nat.mul_succ]
 have hcI : c < INFN := by unfold INFN; omega
 have hdn : done k = none := (hd.wait k c (finQ_some.2 ⟨hk, hcI⟩)).2.2
 have hl : ∀ b y, (b, y) ∈ (innS (steps k)).map (fun x => (x.1, c + x.2)) → y ≤ c + M := fun b y hb => by
  obtain ⟨⟨r, x⟩, hx, he⟩ := List.mem_map.1 hb
  injection he with e1 e2
  have := (hF.inn k r x hkn hx).2
  omega
 refine ⟨hdn, by omega, ?_, hr.round hF hkn hdn, ?_⟩
 ·rw [foldS_q _ _ k _ _ _ (fun _ => 0)]
  refine hd.round hk hcI hm _ (fun b x hb he hx hdb => ?_) (fun b y hb hy => ?_)
  ·exact List.mem_map.2 ⟨(b, x), eF_mem he, rfl⟩
  ·obtain ⟨⟨r, x⟩, hx, he⟩ := List.mem_map.1 hb
   injection he with e1 e2
   subst e1
   exact ⟨x, hF.get hkn hx, e2.symm⟩
 ·rw [foldS_q _ _ k _ _ _ (fun _ => 0), cntD_upd hdn n hkn]
  exact hf.round hk hl
theorem fold_take {done : Nat → Option Nat} {sum : Nat} {l : List Stp} {k : Nat} {s : Stp} (hs : l[k]? = some s) (st : List Int × (Nat → Option Nat)) : foldS done sum (l.take (k + 1)) st = stepS done sum (foldS done sum (l.take k) st) s := by
 unfold foldS
 rw [List.take_add_one, hs, List.foldl_append]
 rfl
end
end Eva
end
section
open Go Go.RowKit
namespace Eva
theorem rep_set (i T : Nat) (x y : Int) (hi : i < T) : (List.replicate i x ++ List.replicate (T - i) y).set i x = List.replicate (i + 1) x ++ List.replicate (T - (i + 1)) y := by
 rw [List.set_append_right _ _ (by simp), List.length_replicate, Nat.sub_self, show T - i = (T - (i + 1)) + 1 by omega, List.replicate_succ, List.set_cons_zero, List.replicate_succ', List.append_assoc]
 rfl
theorem map_upd {done : Nat → Option Nat} {k c n : Nat} (hk : k < n) : ((List.range n).map fun a => (done a).isSome).set k true = (List.range n).map fun a => (upd done k (some c) a).isSome := by
 apply List.ext_getElem?
 intro i
 rw [List.getElem?_set]
 by_cases e : k = i
 ·subst e
  simp [hk, upd]
 ·simp only [if_neg e, List.getElem?_map]
  by_cases hi : i < n
  ·simp [List.getElem?_range hi, upd, Ne.symm e]
  ·rw [List.getElem?_eq_none (by simpa using hi)]; rfl
theorem finQ_first (st : Nat) : finQ INFN (fun b => if b = st then some 0 else none) = fun b => if b = st then some 0 else none := by
 funext b
 unfold finQ
 by_cases h : b = st
 ·simp [h, INFN]
 ·simp [h]
structure LA (h0 : AH) (C hb hp n outs m : Nat) (fl : List Value) (starts : List Nat) (steps : Nat → List Stp) (i : Nat) (h : AH) (pre : List Int) : Prop where
 nw : Nw h0 h
 cst : Bk h C ((pre ++ List.replicate ((m - i) * outs) INF).map (Value.int .i64)) 2
 len : pre.length = i * outs
 fld : Bk h h0.next fl 259
 hbx : Bk h hb [.pointer (some ⟨hp, 0, none⟩)] 122
 lt : h0.next < C ∧ C < hb ∧ hb < h.next
 heap : ∃ S q, HeapQA h S hp n q ∧ (∀ b, S b → h0.next + 1 ≤ b) ∧ ¬ S C ∧ ¬ S hb ∧ ∀ b, S b → b < h.next
 rows : ∀ j st, j < i → starts[j]? = some st → RowOk outs steps st ((pre.drop (j * outs)).take outs)
section
variable {h : AH} {Q : Value → AH → Prop} {F : Nat → Prop} {A : Option Addr} {m K g outs n M : Nat} {fb : Array Value} {starts : List Nat} {steps : Nat → List Stp}
theorem fLeast (hst : Sa cI F h A m K (ints starts)) (hF : FldOk n outs M steps) (hM : M * (n + 1) < 1152921504606846976) (hn : n ≤ 16384) (hm : m ≤ 16384) (hmo : m * outs < 100000) (hs : ∀ s ∈ starts, s < n) (hN : NextOk h g fb n steps)
  (hK : ∀ (C : Nat) (costs : List Int) (h' : AH), Bk h' C (costs.map (Value.int .i64)) 2 → h.next ≤ C → C < h'.next → costs.length = m * outs → (∀ i st, starts[i]? = some st → RowOk outs steps st ((costs.drop (i * outs)).take outs)) → Nw h h' → Q (.slice (some ⟨C, 0, none⟩) (m * outs) (cx (m * outs))) h') :
  WC Tryz.prog 131 [.agg #[.int .i64 n, .slice A m K, .func (.func g) #[] fb], .int .i64 outs] h Q := by
 have hml : starts.length = m := by simpa [ints] using hst.len
 obtain ⟨T, hT⟩ : ∃ T, m * outs = T := ⟨_, rfl⟩
 refine w_fill_field_least fun h1 e1 => ?_
 obtain ⟨k1, g1, z1⟩ := news e1
 have y1 : ldC h1 h.next 1 = some (.slice A m K) := ldC_of g1 rfl
 have wmo : IntKind.i64.wrap ((m : Int) * (outs : Int)) = (T : Int) := by rw [← Int.natCast_mul, hT]; exact wr_ok (by omega) (by omega)
 refine ⟨A, m, K, y1, _, wmo, T, rfl, by omega, fun h2 e2 => ?_⟩
 obtain ⟨k2, g2, z2⟩ := news e2
 rw [rep_one] at g2
 refine ⟨fun mm x h3 => ∃ i : Nat, x = i ∧ i ≤ T ∧ mm = T - i ∧ Bk h3 h1.next ((List.replicate i INF ++ List.replicate (T - i) 0).map (Value.int .i64)) 2 ∧ h3.next = h2.next ∧ ∀ b, b ≠ h1.next → h3.get b = h2.get b, T, ⟨0, rfl, Nat.zero_le _, rfl, by simpa using g2, rfl, fun _ _ => rfl⟩, ?_⟩
 rintro mm x h3 ⟨i, rfl, hi, rfl, b3, z3, o3⟩
 refine ⟨fun hlt => ?_, fun hge => ?_⟩
 ·obtain ⟨h4, s4, b4, z4, o4⟩ := ints_st b3 (k := i) (by simp; omega) INF
  rw [rep_set i T INF 0 (by omega)] at b4
  exact ⟨i, rfl, by omega, h4, s4, _, wr_ok (by omega) (by omega), T - (i + 1), by omega, i + 1, by omega, by omega, rfl, b4, by omega, fun b hb => (o4 b hb).trans (o3 b hb)⟩
 obtain rfl : T = i := by omega
 rw [Nat.sub_self, List.replicate_zero, List.append_nil] at b3
 have f3 : Bk h3 h.next [.int .i64 n, .slice A m K, .func (.func g) #[] fb] 259 := (o3 _ (by omega)).trans (k2.bk (by omega) g1)
 have k3 : Nw h h3 := ⟨by omega, fun b hb => (o3 b (by omega)).trans ((k1.trans k2).get b hb)⟩
 refine ⟨_, ldC_of f3 rfl, hNew n hn fun h5 S5 hp H5 k5 hS5 => ⟨_, rfl, fun h6 e6 => ?_⟩⟩
 obtain ⟨h7, s7, k7, g7, z7⟩ := box_st (vs := [.pointer (some ⟨hp, 0, none⟩)]) e6 rfl (by simp [flat])
 have hz5 := k5.next
 have hz7 := k7.next
 have f7 := (k5.trans k7).bk (by omega) f3
 refine ⟨h7, s7, A, m, K, ldC_of f7 rfl, fun mm x h8 => ∃ (i : Nat) (pre : List Int), x = i ∧ i ≤ m ∧ mm = m - i ∧ LA h h1.next h5.next hp n outs m [.int .i64 n, .slice A m K, .func (.func g) #[] fb] starts steps i h8 pre, m, ⟨0, [], rfl, Nat.zero_le _, rfl, (k3.trans k5).trans k7, ?_, by simp, f7, g7, by omega, ⟨S5, _, H5.nw k7, fun b hb => by have := hS5 b hb; omega, fun hs => by have := hS5 _ hs; omega, fun hs => ?_, fun b hb => ?_⟩, fun j st hj => absurd hj (Nat.not_lt_zero _)⟩, ?_⟩
 ·have := (k5.trans k7).bk (by omega) b3
  simpa [hT] using this
 ·obtain ⟨row, costs, A', K', Bc, Bs, seats, -, -, -, q4⟩ := H5
  have := q4 _ hs
  omega
 ·obtain ⟨row, costs, A', K', Bc, Bs, seats, -, -, -, q4⟩ := H5
  have := q4 _ hb
  omega
 rintro mm x h8 ⟨i, pre, rfl, him, rfl, L⟩
 refine ⟨fun hlt => ?_, fun hge => ?_⟩
 rotate_left
 ·obtain rfl : i = m := by omega
  have hc := L.cst
  rw [Nat.sub_self, Nat.zero_mul, List.replicate_zero, List.append_nil] at hc
  have := hK h1.next pre h8 hc (by omega) (by have := L.lt; omega) L.len (fun j st hj => L.rows j st (by have := (List.getElem?_eq_some_iff.1 hj).1; omega) hj) L.nw
  rwa [hT] at this
 have hil : i < m := by omega
 obtain ⟨bA, oA, xs, rfl, -, hbA, hxs, exs⟩ := (hst.nw L.nw).int (k := i) hil
 obtain ⟨st, hst1⟩ : ∃ st, starts[i]? = some st := ⟨_, List.getElem?_eq_getElem (by omega)⟩
 have hxst : xs = (st : Int) := by simp [ints, hst1] at hxs; exact hxs.symm
 subst hxst
 have hstn := hs st (List.mem_of_getElem? hst1)
 obtain ⟨lo, hlo⟩ : ∃ lo, i * outs = lo := ⟨_, rfl⟩
 have hhi : (i + 1) * outs = lo + outs := by rw [Nat.succ_mul, hlo]
 have hle : (i + 1) * outs ≤ m * outs := Nat.mul_le_mul_right _ hil
 have wlo : IntKind.i64.wrap ((i : Int) * (outs : Int)) = (lo : Int) := by rw [← Int.natCast_mul, hlo]; exact wr_ok (by omega) (by omega)
 have whi : IntKind.i64.wrap (((i + 1 : Nat) : Int) * (outs : Int)) = ((lo + outs : Nat) : Int) := by rw [← Int.natCast_mul, hhi]; exact wr_ok (by omega) (by omega)
 have hi1 : IntKind.i64.wrap ((i : Int) + 1) = ((i + 1 : Nat) : Int) := by rw [Int.natCast_succ]; exact wr_ok (by omega) (by omega)
 have hsl := sl_even (P := Tryz.prog) (e := 2) (C := h1.next) (n := T) (lo := lo) (hi := lo + outs) (by obtain ⟨q, q1, q2, -⟩ := tyB_parts ty64; exact ⟨q, q1, q2⟩) (by omega) (by omega) (by
  rcases Nat.eq_zero_or_pos outs with h0 | h0
  ·right; rw [← hlo, h0, Nat.mul_zero]
  ·left; omega)
 rw [Nat.add_sub_cancel_left] at hsl
 refine ⟨i, rfl, bA, oA, rfl, hil, _, exs, _, wlo, _, hi1, _, whi, lo, rfl, lo + outs, rfl, _, _, _, hsl, fun h9 e9 => ?_⟩
 obtain ⟨h10, s10, k10, g10, z10⟩ := box_st (vs := [.slice (some ⟨h1.next, lo, none⟩) outs (cx (T - lo))]) e9 rfl (by simp [flat])
 obtain ⟨l1, l2, l3⟩ := L.lt
 have f10 := k10.bk (by omega) L.fld
 refine ⟨h10, s10, _, ldC_of f10 rfl, n, rfl, by omega, fun h11 e11 h12 e12 => ?_⟩
 obtain ⟨k11, g11, z11⟩ := news e11
 rw [rep_one] at g11
 obtain ⟨h13, s13, k13, g13, z13⟩ := box_st (vs := [.slice (some ⟨h10.next, 0, none⟩) n (cx n)]) e12 rfl (by simp [flat])
 have k813 : Nw h8 h13 := (k10.trans k11).trans k13
 obtain ⟨S8, q8, H8, hS1, hS2, hS3, hS4⟩ := L.heap
 refine ⟨h13, s13, _, ldC_of (k813.bk (by omega) L.hbx) rfl, hClear (H8.nw k813) fun h14 H14 m14 z14 => ⟨rfl, ?_⟩⟩
 have nS : ∀ {b}, h8.next ≤ b → ¬ S8 b := fun hb hs => by have := hS4 _ hs; omega
 have hb14 : Bk h14 h5.next [.pointer (some ⟨hp, 0, none⟩)] 122 := m14.bk (by omega) hS3 (k813.bk (by omega) L.hbx)
 refine ⟨_, ldC_of hb14 rfl, hPut H14 hstn (Int.le_refl _) (by omega) fun h15 S15 H15 m15 g15 => ⟨_, rfl, ?_⟩⟩
 have z15 := m15.next
 have nS15 : ∀ {b}, b < h14.next → ¬ S8 b → ¬ S15 b := fun hb hn hs => (g15 _ hs).elim hn (fun h => by omega)
 have mm15 : Mt S8 h13 h15 := m14.trans m15 fun b hb _ => hb
 have hpl : pre.length = lo := L.len.trans hlo
 have hrep : List.replicate ((m - i) * outs) INF = List.replicate outs INF ++ List.replicate ((m - (i + 1)) * outs) INF := by
  rw [List.replicate_append_replicate, show (m - i) * outs = outs + (m - (i + 1)) * outs from by rw [show m - i = (m - (i + 1)) + 1 by omega, Nat.succ_mul, Nat.add_comm]]
 have f15 : Bk h15 h.next [.int .i64 n, .slice (some ⟨bA, oA, none⟩) m K, .func (.func g) #[] fb] 259 := mm15.bk (by omega) (fun hs => by have := hS1 _ hs; omega) (k813.bk (by omega) L.fld)
 have LL : LS0 h h1.next h8.next h10.next h11.next h5.next hp outs n (cx (T - lo)) pre (List.replicate ((m - (i + 1)) * outs) INF) (fun _ => none) h15 (List.replicate outs INF) (fun b => if b = st then some 0 else none) := by
  refine ⟨⟨by have := L.nw.next; omega, fun b hb => (mm15.get b (by omega) (fun hs => by have := hS1 _ hs; omega)).trans ((k813.get b (by omega)).trans (L.nw.get b hb))⟩, by omega, by omega, by omega, ?_, by simp, ?_, ?_, ?_, m15.bk (by omega) hS3 hb14, ⟨S15, H15, fun b hb => (g15 b hb).elim (hS1 b) (fun h => by omega), nS15 (by omega) hS2, nS15 (by omega) (nS (by omega)), nS15 (by omega) (nS (by omega)), nS15 (by omega) (nS (by omega)), nS15 (by omega) hS3, fun b hb => ?_⟩⟩
  ·have := mm15.bk (by omega) hS2 (k813.bk (by omega) L.cst)
   rwa [hrep, ← List.append_assoc] at this
  ·have := mm15.bk (by omega) (nS (by omega)) ((k11.trans k13).bk (by omega) g10)
   rwa [hpl]
  ·have := mm15.bk (by omega) (nS (by omega)) (k13.bk (by omega) g11)
   have e : (List.range n).map (fun a => ((fun _ => none : Nat → Option Nat) a).isSome) = List.replicate n false := by
    show (List.range n).map (fun _ => false) = _
    rw [List.map_const', List.length_range]
   rw [e, List.map_replicate]
   exact this
  ·exact mm15.bk (by omega) (nS (by omega)) g13
  ·rcases g15 b hb with h | h
   ·have := hS4 b h; omega
   ·omega
 refine ⟨fun mm h16 => ∃ (done q : Nat → Option Nat) (row : List Int), mm = n - cntD done n ∧ LS0 h h1.next h8.next h10.next h11.next h5.next hp outs n (cx (T - lo)) pre (List.replicate ((m - (i + 1)) * outs) INF) done h16 row q ∧ Dij INFN (eF steps) st done (finQ INFN q) ∧ RowInv outs steps done row ∧ Few M (cntD done n) q ∧ Bk h16 h.next [.int .i64 n, .slice (some ⟨bA, oA, none⟩) m K, .func (.func g) #[] fb] 259, n, ⟨_, _, _, ?_, LL, ?_, RowInv.start _ _, fun b c hb => ?_, f15⟩, ?_⟩
 ·have : cntD (fun _ => none) n = 0 := by simp [cntD]
  rw [this]; rfl
 ·rw [finQ_first]
  exact Dij.new (by unfold INFN; omega)
 ·by_cases e : b = st
  ·simp [e] at hb; omega
  ·simp [e] at hb
 rintro mm h16 ⟨done, q, row, rfl, L16, hD, hR, hFw, f16⟩
 obtain ⟨S16, H16, c1, c2, c3, c4, c5, c6, c7⟩ := L16.heap
 obtain ⟨a1, a2, a3, a4, a5⟩ := L16.lt
 obtain ⟨n1, n2, n3, n4, n5, n6, n7⟩ := L16.ne
 refine ⟨_, ldC_of L16.hbx rfl, hPop H16 (fun hq => ?_) (fun k c h17 hkN hqk hmin H17 m17 z17 => ?_)⟩
 ·
  refine ⟨_, _, _, rfl, fun h => Bool.noConfusion h, fun _ h22 e22 => ?_⟩
  obtain ⟨h23, s23, k23, g23, z23⟩ := box_st (vs := [.int .i64 0]) e22 rfl (by simp [flat])
  have hq0 : ∀ b, finQ INFN q b = none := fun b => by unfold finQ; rw [hq b]
  have hrow := hR.done hD hq0
  refine ⟨h23, s23, _, hi1, m - (i + 1), by omega, i + 1, pre ++ row, rfl, hil, rfl, ?_⟩
  have L23 := L16.keep1 k23
  refine ⟨L23.nw, ?_, by rw [List.length_append, hpl, L16.len, hhi], k23.bk (by omega) f16, L23.hbx, by omega, ⟨S16, q, H16.nw k23, c1, c2, c6, fun b hb => by have := c7 b hb; omega⟩, fun j sj hj hsj => ?_⟩
  ·have := L23.cst
   simpa only [List.append_assoc] using this
  ·by_cases e : j = i
   ·subst e
    obtain rfl : st = sj := Option.some.inj (hst1.symm.trans hsj)
    have e1 : ((pre ++ row).drop (j * outs)).take outs = row := by
     rw [show j * outs = pre.length from hlo.trans hpl.symm, List.drop_left]
     exact List.take_of_length_le (Nat.le_of_eq L16.len)
    rw [e1]
    exact hrow
   ·have h9 := L.rows j sj (by omega) hsj
    have h10 : (j + 1) * outs ≤ i * outs := Nat.mul_le_mul_right _ (by omega)
    rw [Nat.succ_mul] at h10
    rw [List.drop_append_of_le_length (by rw [hpl]; omega), List.take_append_of_le_length (by rw [List.length_drop, hpl]; omega)]
    exact h9
 ·
  refine ⟨_, _, _, rfl, fun _ h18 e18 => ?_, fun h => Bool.noConfusion h⟩
  obtain ⟨h19, s19, k19, g19, z19⟩ := box_st (vs := [.int .i64 c]) e18 rfl (by simp [flat])
  obtain ⟨r1, r2, r3, r4, r5⟩ := fRound hF hM hD hR hFw hqk hkN hmin
  have d19 : Bk h19 h11.next [.slice (some ⟨h10.next, 0, none⟩) n (cx n)] 167 := k19.bk (by omega) (m17.bk a4 c5 L16.dbx)
  have D19 := k19.bk (by omega) (m17.bk a3 c4 L16.dbl)
  obtain ⟨h20, s20, b20, z20, o20⟩ := st_one (v := .bool true) D19 (o := 0 + k) (by simpa using hkN) rfl
  rw [Nat.zero_add, ← List.map_set, map_upd (c := c) hkN] at b20
  have f20 : Bk h20 h.next [.int .i64 n, .slice (some ⟨bA, oA, none⟩) m K, .func (.func g) #[] fb] 259 := (o20 _ (by omega)).trans (k19.bk (by omega) (m17.bk (by omega) (fun hs => by have := c1 _ hs; omega) f16))
  refine ⟨h19, s19, _, _, _, ldC_of d19 rfl, k, rfl, _, _, rfl, hkN, h20, s20, g, fb, ldC_of f20 rfl, hN.1, ?_⟩
  have nw20 : Nw h h20 := ⟨by have := L16.nw.next; omega, fun b hb => (o20 b (by omega)).trans ((k19.get b (by have := L16.nw.next; omega)).trans ((m17.get b (by have := L16.nw.next; omega) (fun hs => by have := c1 _ hs; omega)).trans (L16.nw.get b hb)))⟩
  have bk20 : ∀ {b : Nat} {cs : List Value} {t : TypeId}, b < h16.next → ¬ S16 b → b ≠ h10.next → Bk h16 b cs t → Bk h20 b cs t := fun hb hn hne hk => (o20 _ hne).trans (k19.bk (by omega) (m17.bk hb hn hk))
  have LS20 : LS h h1.next h8.next h17.next h10.next h11.next h5.next hp outs n (cx (T - lo)) pre (List.replicate ((m - (i + 1)) * outs) INF) (upd done k (some c)) c h20 row (del q k) := by
   refine ⟨nw20, by have := L16.nw.next; omega, by omega, by omega, bk20 a1 c2 n2 L16.cst, L16.len, bk20 a2 c3 (by omega) L16.rbx, (o20 _ (by omega)).trans g19, b20, bk20 a4 c5 (by omega) L16.dbx, bk20 a5 c6 (by omega) L16.hbx, ⟨S16, (H17.nw k19).off (S' := fun b => b = h10.next) ⟨by omega, fun b _ hb => o20 b hb⟩ (fun b hb e => c4 (e ▸ hb)), c1, c2, c3, fun hs => by have := c7 _ hs; omega, c4, c5, c6⟩⟩
  refine hN.2 k hkN h20 205 #[.pointer (some ⟨h8.next, 0, none⟩), .pointer (some ⟨h17.next, 0, none⟩), .pointer (some ⟨h11.next, 0, none⟩), .pointer (some ⟨h5.next, 0, none⟩)]
   (fun j h' => LS h h1.next h8.next h17.next h10.next h11.next h5.next hp outs n (cx (T - lo)) pre (List.replicate ((m - (i + 1)) * outs) INF) (upd done k (some c)) c h' (foldS (upd done k (some c)) c ((steps k).take j) (row, del q k)).1 (foldS (upd done k (some c)) c ((steps k).take j) (row, del q k)).2 ∧ Bk h' h.next [.int .i64 n, .slice (some ⟨bA, oA, none⟩) m K, .func (.func g) #[] fb] 259) _
   (fun j h' hj => hj.1.nw) (fun j h' h'' hj hw => ⟨hj.1.next hw, hw.bk (by have := hj.1.nw.next; have := hj.1.lt; have := hj.1.lo; omega) hj.2⟩) (by kernel_rfl) (fun j s h' Q' hj hsj hQ' => ?_) ⟨LS20, f20⟩ (fun h21 hj => ⟨rfl, ?_⟩)
  ·exact fTell hj.1 (hF.pos k s hkN (List.mem_of_getElem? hsj)) r2 (by omega) fun h'' L'' g'' => hQ' h'' ⟨by rw [fold_take hsj]; exact L'', g''.trans hj.2⟩
  ·obtain ⟨L21, f21⟩ := hj
   rw [List.take_length] at L21
   obtain ⟨S21, H21, u1, u2, u3, u4, u5, u6, u7⟩ := L21.heap
   have hcl := cntD_lt r1 hkN
   refine ⟨n - cntD (upd done k (some c)) n, by rw [cntD_upd r1 n hkN]; omega, _, _, _, rfl, ⟨L21.nw, by have := L21.lo; omega, by have := L21.lt; omega, by omega, L21.cst, L21.len, L21.rbx, L21.dbl, L21.dbx, L21.hbx, ⟨S21, H21, ?_, u2, u3, u5, u6, u7, ?_⟩⟩, r3, r4, r5, f21⟩
   ·exact u1
   ·obtain ⟨row', costs', A', K', Bc, Bs, seats, -, -, -, q4⟩ := H21
    exact q4
end
end Eva
end
section
open Go
namespace Eva
structure KeyOk {α : Type} [DecidableEq α] (P : Program) (kt : TypeId) (κ : α → Value) : Prop where
 pl : ∀ a, pl (κ a) = true
 eq : ∀ a b, pureRun P (Op.equal kt (κ a) (κ b)) = some (decide (a = b))
 chk : ∀ e a, checkOk P kt e (κ a) = true
 bits : ∀ a, Instr.sameBits 10000 (κ a) (κ a) = true
section
variable {α : Type} [DecidableEq α]
abbrev MEn (α : Type) := α × Value × Nat
def enM (κ : α → Value) (x : MEn α) : Value × Value × Nat := (κ x.1, x.2.1, x.2.2)
def getM (l : List (MEn α)) (a : α) : Option Value := (l.find? fun x => decide (x.1 = a)).map (·.2.1)
theorem findA_spec {P : Program} {kt : TypeId} {κ : α → Value} (K : KeyOk P kt κ) (a : α) : ∀ (l : List (MEn α)) (i : Nat),
  (findA P kt (κ a) (l.map (enM κ)) i = some none ∧ getM l a = none) ∨
  ∃ j v b, findA P kt (κ a) (l.map (enM κ)) i = some (some (i + j, v)) ∧ l[j]? = some (a, v, b) ∧ getM l a = some v ∧ ∀ v' a', getM (l.set j (a, v', b)) a' = if a' = a then some v' else getM l a'
 | [], i => .inl ⟨by show cond (Eva.pl (κ a)) (some none) none = _; rw [K.pl]; rfl, rfl⟩
 | x :: l, i => by
  have e0 : findA P kt (κ a) ((x :: l).map (enM κ)) i = findN i x.2.1 (findA P kt (κ a) (l.map (enM κ)) (i + 1)) (some (decide (a = x.1))) := by
   show cond (Eva.pl (κ a) && Eva.pl (κ x.1)) (findN i x.2.1 (findA P kt (κ a) (l.map (enM κ)) (i + 1)) (pureRun P (Op.equal kt (κ a) (κ x.1)))) none = _
   rw [K.pl, K.pl, K.eq]; rfl
  rw [e0]
  by_cases h : a = x.1
  ·refine .inr ⟨0, x.2.1, x.2.2, by rw [decide_eq_true h]; rfl, by rw [h]; rfl, by simp [getM, h], fun v' a' => ?_⟩
   by_cases h' : a' = a
   ·simp [getM, h']
   ·have h2 : ¬ a = a' := fun e => h' e.symm
    have h3 : ¬ x.1 = a' := fun e => h2 (h.trans e)
    simp [getM, h', h2, h3]
  ·have hx : ¬ x.1 = a := fun e => h e.symm
   rw [decide_eq_false h]
   rcases findA_spec K a l (i + 1) with ⟨h1, h2⟩ | ⟨j, v, b, h1, h2, h3, h4⟩
   ·exact .inl ⟨h1, by simpa [getM, hx] using h2⟩
   ·refine .inr ⟨j + 1, v, b, by show findA P kt (κ a) (l.map (enM κ)) (i + 1) = _; rw [h1]; congr 3; omega, by simpa using h2, by simpa [getM, hx] using h3, fun v' a' => ?_⟩
    have h5 := h4 v' a'
    by_cases h6 : x.1 = a'
    ·have h7 : ¬ a' = a := fun e => hx (h6.trans e)
     simp [getM, h6, h7]
    ·simpa [getM, h6] using h5
theorem modA_set {κ : α → Value} {a : α} {v v0 : Value} {b : Nat} : ∀ {l : List (MEn α)} {j : Nat}, l[j]? = some (a, v0, b) → modA (κ a) v (l.map (enM κ)) j = (l.set j (a, v, b)).map (enM κ)
 | [], j, h => by simp at h
 | x :: l, 0, h => by simp at h; subst h; rfl
 | x :: l, j + 1, h => by
  show enM κ x :: modA (κ a) v (l.map (enM κ)) j = _
  rw [modA_set (l := l) (j := j) (by simpa using h)]; rfl
def MapF (κ : α → Value) (h : AH) (r : Nat) (f : α → Option Value) : Prop :=
 ∃ (l : List (MEn α)) (clock : Nat), h.get r = some (.map (l.map (enM κ)) clock) ∧ ∀ a, f a = getM l a
theorem MapF.keep {κ : α → Value} {h h' : AH} {r : Nat} {f : α → Option Value} (m : MapF κ h r f) (hg : h'.get r = h.get r) : MapF κ h' r f := by
 obtain ⟨l, c, h1, h2⟩ := m
 exact ⟨l, c, hg.trans h1, h2⟩
theorem MapF.new {κ : α → Value} {h : AH} {r c : Nat} (hg : h.get r = some (.map [] c)) : MapF κ h r (fun _ => none) := ⟨[], c, hg, fun a => rfl⟩
section
variable {P : Program} {kt e : TypeId} {κ : α → Value} {h : AH} {r : Nat} {f : α → Option Value} {i : TypeInfo} {z : Value}
theorem MapF.look (m : MapF κ h r f) (K : KeyOk P kt κ) (hi : P.info? e = some i) (hz : i.zero = some z) (hp : Eva.pl z = true) (a : α) (ok : Bool) :
  vLookup P (some (.map kt e)) (.map (some r)) (κ a) ok h = some (cond ok (.tuple #[(f a).getD z, .bool (f a).isSome]) ((f a).getD z)) := by
 obtain ⟨l, c, h1, h2⟩ := m
 unfold vLookup entries
 simp only [h1, hi, K.pl, K.chk, Bool.and_self, cond_true, h2, hz]
 rcases findA_spec K a l 0 with ⟨g1, g2⟩ | ⟨j, v, b, g1, g2, g3, -⟩
 ·rw [g1, g2]
  show cond (Eva.pl z) _ none = _
  rw [hp]; rfl
 ·rw [g1, g3]; rfl
theorem MapF.put (m : MapF κ h r f) (K : KeyOk P kt κ) (a : α) (v : Value) :
  ∃ h', lMap P h (some (.map kt e)) (.map (some r)) (κ a) v = some (undef, h') ∧ MapF κ h' r (fun x => if x = a then some v else f x) ∧ h'.next = h.next ∧ ∀ b, b ≠ r → h'.get b = h.get b := by
 obtain ⟨l, c, h1, h2⟩ := m
 have hput : ∀ ao, (h.put r ao).get r = some ao := fun ao => by rw [get_put, if_pos rfl]
 have hne : ∀ ao b, b ≠ r → (h.put r ao).get b = h.get b := fun ao b hb => by rw [get_put, if_neg hb]
 unfold lMap
 simp only [h1, K.pl, K.chk, Bool.and_self, cond_true]
 rcases findA_spec K a l 0 with ⟨g1, g2⟩ | ⟨j, v0, b, g1, g2, g3, g4⟩
 ·rw [g1]
  refine ⟨h.put r (.map (l.map (enM κ) ++ [(κ a, v, c)]) (c + 1)), rfl, ⟨l ++ [(a, v, c)], c + 1, ?_, fun x => ?_⟩, rfl, fun b hb => hne _ b hb⟩
  ·rw [hput, List.map_append]; rfl
  ·simp only [h2]
   unfold getM at g2 ⊢
   rw [List.find?_append]
   by_cases hx : x = a
   ·subst hx
    have : List.find? (fun y => decide (y.1 = x)) l = none := by simpa using g2
    simp [this]
   ·have : ¬ a = x := fun e => hx e.symm
    simp [hx, this]
 ·rw [g1]
  have hs : sameKey (κ a) (l.map (enM κ))[0 + j]? = true := by
   rw [Nat.zero_add, List.getElem?_map, g2]
   exact K.bits a
  refine ⟨h.put r (.map (modA (κ a) v (l.map (enM κ)) (0 + j)) c), by show cond (sameKey (κ a) (l.map (enM κ))[0 + j]?) _ none = _; rw [hs]; rfl, ⟨l.set j (a, v, b), c, ?_, fun x => ?_⟩, rfl, fun b hb => hne _ b hb⟩
  ·rw [hput, Nat.zero_add, modA_set g2]
  ·rw [g4 v x]
   simp only [h2]
end
end
def kN (a : Nat) : Value := .int .i64 a
def kNN (a : Nat × Nat) : Value := .agg #[.int .i64 a.1, .int .i64 a.2]
section
variable {P : Program} {α β : Type}
theorem pureRun_bind (s : Sem α) (k : α → Sem β) : pureRun P (s >>= k) = (pureRun P s).bind fun a => pureRun P (k a) := by
 show pureRun P (Sem.bind s k) = _
 induction s with
 | pure a => rfl
 | program f ih => exact ih P
 | mark m f ih => exact ih
 | _ => rfl
theorem pureRun_pure (a : α) : pureRun P (pure a : Sem α) = some a := rfl
theorem pureRun_und {t : TypeId} {d : TypeDesc} (h : P.underlying t = some d) : pureRun P (underlying t) = some d := by
 unfold underlying
 rw [pureRun_bind]
 show (Option.bind (some P) _) = _
 simp only [Option.bind_some, h]
 rfl
theorem pureRun_siz {t : TypeId} {i : TypeInfo} (h : P.info? t = some i) : pureRun P (sizeOf t) = some i.size := by
 unfold sizeOf typeInfo
 rw [pureRun_bind, pureRun_bind]
 show (Option.bind (Option.bind (some P) _) _) = _
 simp only [Option.bind_some, h]
 rfl
theorem eqI {t : TypeId} {k : IntKind} (h : P.underlying t = some (.int k)) (d : Nat) (x y : Int) : pureRun P (Op.equalIn (d + 1) t (.int .i64 x) (.int .i64 y)) = some (x == y) := by
 unfold Op.equalIn
 rw [pureRun_bind, pureRun_und h]
 rfl
theorem chkI {t : TypeId} {k : IntKind} (h : P.underlying t = some (.int k)) (e : Bool) (d : Nat) (x : Int) : pureRun P (Instr.checkKey e (d + 1) t (.int .i64 x)) = some () := by
 unfold Instr.checkKey
 rw [pureRun_bind, pureRun_und h]
 rfl
theorem keyN {kt : TypeId} {d : IntKind} (hu : P.underlying kt = some (.int d)) : KeyOk P kt kN where
 pl := fun a => by rfl
 eq := fun a b => by
  show pureRun P (Op.equalIn (9999 + 1) kt (.int .i64 a) (.int .i64 b)) = _
  rw [eqI hu]
  congr 1
  exact decide_eq_decide.2 Int.ofNat_inj
 chk := fun e a => by
  show (match pureRun P (Instr.checkKey e (9999 + 1) kt (.int .i64 a)) with | some _ => true | none => false) = true
  rw [chkI hu]
 bits := fun a => by
  show Instr.sameBits 10000 (.int .i64 a) (.int .i64 a) = true
  unfold Instr.sameBits
  simp
theorem pureRun_ite (c : Prop) [Decidable c] (s t : Sem α) : pureRun P (if c then s else t) = if c then pureRun P s else pureRun P t := by split <;> rfl
theorem pureRun_part {et : TypeId} {d : IntKind} {i : TypeInfo} (he : P.underlying et = some (.int d)) (hi : P.info? et = some i) (x : Array Value) (j : Nat) {v : Value} (hv : x[j]? = some v) : pureRun P (part et x j) = some v := by
 unfold part isAgg
 rw [pureRun_bind, pureRun_bind, pureRun_und he]
 simp only [Option.bind_some, hv]
 rfl
theorem keyNN {kt et : TypeId} {d : IntKind} {i : TypeInfo} (hu : P.underlying kt = some (.array 2 et)) (he : P.underlying et = some (.int d)) (hi : P.info? et = some i) (hs : i.size = 1) : KeyOk P kt kNN where
 pl := fun a => by rfl
 eq := fun a b => by
  obtain ⟨a1, a2⟩ := a
  obtain ⟨b1, b2⟩ := b
  show pureRun P (Op.equalIn (9999 + 1) kt (.agg #[.int .i64 a1, .int .i64 a2]) (.agg #[.int .i64 b1, .int .i64 b2])) = _
  unfold Op.equalIn
  rw [pureRun_bind, pureRun_und hu]
  simp only [Option.bind_some]
  rw [pureRun_bind, pureRun_siz hi, hs]
  simp only [Option.bind_some]
  simp only [Std.Legacy.Range.forIn_eq_forIn_range', Std.Legacy.Range.size, List.range', List.forIn_cons, List.forIn_nil]
  simp [pureRun_bind, pureRun_part he hi, eqI he, List.range', pureRun_pure, pureRun_ite]
  by_cases h1 : a1 = b1 <;> by_cases h2 : a2 = b2 <;> simp [h1, h2, pureRun_bind, pureRun_part he hi, eqI he, pureRun_pure, beq_iff_eq, Int.ofNat_inj]
 chk := fun e a => by
  show (match pureRun P (Instr.checkKey e (9999 + 1) kt (.agg #[.int .i64 a.1, .int .i64 a.2])) with | some _ => true | none => false) = true
  unfold Instr.checkKey
  rw [pureRun_bind, pureRun_und hu]
  simp only [Option.bind_some]
  simp [pureRun_bind, pureRun_part he hi, chkI he, pureRun_siz hi, hs, List.range', pureRun_pure]
 bits := fun a => by
  show Instr.sameBits 10000 (.agg #[.int .i64 a.1, .int .i64 a.2]) (.agg #[.int .i64 a.1, .int .i64 a.2]) = true
  unfold Instr.sameBits
  simp [Instr.sameBits]
end
end Eva
end
section
open Go Go.RowKit
namespace Eva
theorem keyI : KeyOk Tryz.prog 3 kN := keyN (d := .i64) Tryz.underlying3
theorem infoI : ∃ i, Tryz.prog.info? 3 = some i ∧ i.zero = some (.int .i64 0) := by
 obtain ⟨i, h1, h2⟩ : ∃ i, Tryz.prog.info? 3 = some i ∧ (match Tryz.prog.info? 3 with | some i => i.zero | none => none) = some (.int .i64 0) := by
  cases h : Tryz.prog.info? 3 with
  | some i => exact ⟨i, rfl, by rw [← h]; kernel_rfl⟩
  | none =>
   have : (Tryz.prog.info? 3).isSome = true := by kernel_rfl
   rw [h] at this; cases this
 exact ⟨i, h1, by rw [h1] at h2; exact h2⟩
def pmF (L : List Nat) : Nat → Option Value := fun a => if a ∈ L then some (.int .i64 ((L.idxOf a : Nat) : Int)) else none
theorem pmF_snoc {L : List Nat} {b : Nat} (hb : b ∉ L) : (fun x => if x = b then some (Value.int .i64 (L.length : Int)) else pmF L x) = pmF (L ++ [b]) := by
 funext x
 unfold pmF
 by_cases e : x = b
 ·subst e
  rw [if_pos rfl, if_pos (by simp), List.idxOf_append, if_neg hb]
  simp
 ·rw [if_neg e]
  by_cases h : x ∈ L
  ·rw [if_pos h, if_pos (by simp [h]), List.idxOf_append, if_pos h]
  ·rw [if_neg h, if_neg (by simp [h, e])]
section
variable {h h0 : AH} {Q : Value → AH → Prop} {F : Nat → Prop} {A : Option Addr} {n K : Nat}
theorem mapLook {L : List Nat} {pm : Nat} (m : MapF kN h pm (pmF L)) (b : Nat) : vLookup Tryz.prog (some (.map 3 3)) (.map (some pm)) (.int .i64 (b : Int)) true h = some (.tuple #[.int .i64 (if b ∈ L then ((L.idxOf b : Nat) : Int) else 0), .bool (decide (b ∈ L))]) := by
 obtain ⟨i, h1, h2⟩ := infoI
 have := m.look keyI h1 h2 rfl b true
 show vLookup _ _ _ (kN b) true h = _
 rw [this]
 unfold pmF
 by_cases hb : b ∈ L
 ·simp [hb]
 ·simp [hb]
theorem mapLook1 {L : List Nat} {pm : Nat} (m : MapF kN h pm (pmF L)) (b : Nat) : vLookup Tryz.prog (some (.map 3 3)) (.map (some pm)) (.int .i64 (b : Int)) false h = some (.int .i64 (if b ∈ L then ((L.idxOf b : Nat) : Int) else 0)) := by
 obtain ⟨i, h1, h2⟩ := infoI
 have := m.look keyI h1 h2 rfl b false
 show vLookup _ _ _ (kN b) false h = _
 rw [this]
 unfold pmF
 by_cases hb : b ∈ L
 ·simp [hb]
 ·simp [hb]
theorem mapPut {L : List Nat} {pm : Nat} (m : MapF kN h pm (pmF L)) {b : Nat} (hb : b ∉ L) : ∃ h', lMap Tryz.prog h (some (.map 3 3)) (.map (some pm)) (.int .i64 (b : Int)) (.int .i64 (L.length : Int)) = some (undef, h') ∧ MapF kN h' pm (pmF (L ++ [b])) ∧ h'.next = h.next ∧ ∀ c, c ≠ pm → h'.get c = h.get c := by
 obtain ⟨h', x1, x2, x3, x4⟩ := m.put (P := Tryz.prog) (e := 3) keyI b (.int .i64 (L.length : Int))
 rw [pmF_snoc hb] at x2
 exact ⟨h', x1, x2, x3, x4⟩
theorem nextArcs {S : List (List Stp)} {sb : Nat} (hlt : sb < h0.next) (hb : ldC h0 sb 0 = some (.slice A n K)) (hs : Sa (Rc.slice cTri) F h0 A n K S) (hS : ∀ r ∈ S, r.length ≤ 100000) : NextOk h0 204 #[.pointer (some ⟨sb, 0, none⟩)] n (stepsOf S) := by
 refine ⟨by kernel_rfl, fun a ha h tg tfb J Q hJn hJs htg htell hJ0 hQ => ?_⟩
 have nw0 := hJn 0 h hJ0
 obtain ⟨b, o, A', n', K', r, rfl, hF, hbl, hr, e0, s0⟩ := hs.row (k := a) ha
 have hrS : stepsOf S a = r := by unfold stepsOf; rw [hr]; rfl
 have hrl := hS r (List.mem_of_getElem? hr)
 have hn' := s0.len
 refine w_fill_byArcs_1 ⟨sb, 0, rfl, _, _, _, (nw0.ldC hlt 0).trans hb, a, rfl, _, _, rfl, ha, _, _, _, (nw0.ldC hbl _).trans e0, fun m x h1 => ∃ i : Nat, x = i ∧ i ≤ n' ∧ m = n' - i ∧ J i h1, n', ⟨0, rfl, Nat.zero_le _, rfl, hJ0⟩, ?_⟩
 rintro m x h1 ⟨i, rfl, hi, rfl, hJ1⟩
 refine ⟨fun hlt => ?_, fun hge => ?_⟩
 ·obtain ⟨b3, o3, x3, x4, x5, rfl, -, -, hx, f0, f1, f2⟩ := (s0.nw (hJn _ _ hJ1)).tri (k := i) (by omega)
  refine ⟨i, rfl, _, _, rfl, by omega, _, _, _, ldN3 f0 f1 f2, fun h2 e2 => ?_⟩
  obtain ⟨h3, s3, k3, g3, z3⟩ := box_st (vs := [.int .i64 x3, .int .i64 x4, .int .i64 x5]) e2 rfl (flat3 rfl rfl rfl)
  refine ⟨h3, s3, _, _, _, ldN3 (ldC_of g3 rfl) (ldC_of g3 rfl) (ldC_of g3 rfl), htg, ?_⟩
  refine htell i (x3, x4, x5) h3 _ (hJs _ _ _ hJ1 k3) (by rw [hrS]; exact hx) fun h4 hJ4 => ⟨rfl, _, wr_ok (by omega) (by omega), n' - (i + 1), by omega, i + 1, by omega, by omega, rfl, hJ4⟩
 ·have hin : i = (stepsOf S a).length := by rw [hrS]; omega
  rw [hin] at hJ1
  exact hQ h1 hJ1
end
end Eva
end
section
open Go Go.RowKit
namespace Eva
theorem tyS : tyB Tryz.prog 353 3 24 = true := by kernel_rfl
theorem tySs : tyB Tryz.prog 351 1 24 = true := by kernel_rfl
section
variable {h h' : AH} {Q : Value → AH → Prop} {F : Nat → Prop} {A : Option Addr} {n K : Nat} {xs : List Int}
theorem aCloneP (hs : Sa cI F h A n K xs) (hn : n ≤ 100000) (hK : ∀ A' K' h', OwnP cI h' (ownB A') 3 A' n K' xs → Nw h h' → (∀ b, ownB A' b → h.next ≤ b) → Q (.slice A' n K') h') : WC Tryz.prog 35 [.slice A n K] h Q := by
 refine w_slices_Clone_int_int ⟨fun hA => ?_, fun hA => ?_⟩
 ·obtain ⟨h0, h1⟩ := hs.nil0 hA
  refine ⟨h0, h1, ?_⟩
  subst hA h0 h1
  have hx : xs = [] := List.eq_nil_of_length_eq_zero hs.len
  subst hx
  exact hK none 0 h (OwnP.nil _ _ _ _) (Nw.refl _) (fun b hb => hb.elim)
 ·obtain ⟨b, o, rfl⟩ := hs.some_ hA
  refine ⟨b, o, rfl, fun h1 e1 => ?_⟩
  obtain ⟨k1, g1, z1⟩ := news e1
  have hB : OwnP cI h1 (ownB (some ⟨h.next, 0, none⟩)) 3 (some ⟨h.next, 0, none⟩) 0 (2 * 0) [] := OwnP.lit (r := cI) (xs := []) (n := 0) g1 rfl (by omega) rfl rfl (by simp) (by simp)
  obtain ⟨A', K', h', x1, x2, x3, x4⟩ := app_row (free_int _) (r := cI) tyI8 hB (hs.nw k1).z (by omega) (by omega)
  rw [Nat.zero_add] at x1 x2
  rw [List.nil_append] at x2
  refine ⟨A', n, K', h', x1, hK _ _ _ x2 (x3.is_nw k1 fun b hb => ?_) fun b hb => ?_⟩
  ·have : b = h.next := hb
   omega
  ·rcases x4 b hb with h2 | h2
   ·have : b = h.next := h2
    omega
   ·omega
end
theorem aRow_len (N : NetD) (outs L : List Nat) (a : Nat) (bs : List Nat) : (N.aRow outs L a bs).length ≤ bs.length := List.length_filterMap_le _ _
structure AB (h0 : AH) (N : NetD) (p : List (List Int)) (c pm sb : Nat) (D : Nat → Prop) (A14 : Option Addr) (K14 i : Nat) (S : List (List Stp)) (h : AH) (A5 : Option Addr) (n5 K5 : Nat) (L : List Nat) : Prop where
 nw : Nw h0 h
 fld : AFld N p c L i S
 len : L.length = n5
 arcs : OwnP cI h (ownB A5) 3 A5 n5 K5 (ints L)
 map_ : MapF kN h pm (pmF L)
 sbx : Bk h sb [.slice A14 i K14] 350
 stp : OwnP (Rc.slice cTri) h D 351 A14 i K14 S
 dlo : ∀ b, D b → h0.next ≤ b ∧ b < h.next ∧ b ≠ pm ∧ b ≠ sb
 alo : ∀ b, ownB A5 b → h0.next ≤ b ∧ b ≠ pm ∧ b ≠ sb ∧ ¬ D b
 pos : h0.next ≤ pm ∧ h0.next ≤ sb ∧ pm ≠ sb ∧ pm < h.next ∧ sb < h.next
section
variable {h h' h0 : AH} {N : NetD} {p : List (List Int)} {c pm sb : Nat} {D : Nat → Prop} {A14 A5 : Option Addr} {K14 i n5 K5 : Nat} {S : List (List Stp)} {L : List Nat} {a b : Nat}
theorem AB.keep (B : AB h0 N p c pm sb D A14 K14 i S h A5 n5 K5 L) (hk : ∀ b, b < h.next → h'.get b = h.get b) (hn : h.next ≤ h'.next) : AB h0 N p c pm sb D A14 K14 i S h' A5 n5 K5 L := by
 obtain ⟨p1, p2, p3, p4, p5⟩ := B.pos
 have a : Nw h h' := ⟨hn, hk⟩
 exact ⟨B.nw.trans a, B.fld, B.len, B.arcs.nw a, B.map_.keep (hk _ p4), a.bk p5 B.sbx, B.stp.nw a, fun b hb => by have := B.dlo b hb; omega, B.alo, by omega⟩
theorem AB.next (B : AB h0 N p c pm sb D A14 K14 i S h A5 n5 K5 L) (a : Nw h h') : AB h0 N p c pm sb D A14 K14 i S h' A5 n5 K5 L := B.keep a.get a.next
theorem AB.grow (B : AB h0 N p c pm sb D A14 K14 i S h A5 n5 K5 L) (hok : N.Ok) (hfew : N.na ≤ 1000) {r : Nat} (ha : L[r]? = some a) (hb : N.aIn (N.outs p 1 c) a b) (hn : b ∉ L) :
  ∃ h19, lMap Tryz.prog h (some (.map 3 3)) (.map (some pm)) (.int .i64 (b : Int)) (.int .i64 (n5 : Int)) = some (undef, h19) ∧
   ∀ h20, h20 = AH.new h19 (.cells [.int .i64 (b : Int)] 3 false) → ∃ A' K' h21, lAppend Tryz.prog h20 (some (.slice 3)) (some (.slice 3)) (.slice A5 n5 K5) (.slice (some ⟨h19.next, 0, none⟩) 1 2) = some (.slice A' (n5 + 1) K', h21) ∧
    AB h0 N p c pm sb D A14 K14 i S h21 A' (n5 + 1) K' (L ++ [b]) ∧ (∀ x, ownB A' x → ownB A5 x ∨ h.next ≤ x) ∧ h.next ≤ h21.next ∧ (∀ x, x < h.next → x ≠ pm → ¬ ownB A5 x → h21.get x = h.get x) := by
 obtain ⟨p1, p2, p3, p4, p5⟩ := B.pos
 have hL := B.fld.len
 obtain ⟨h19, x1, x2, x3, x4⟩ := mapPut B.map_ hn
 rw [B.len] at x1
 refine ⟨h19, x1, fun h20 e20 => ?_⟩
 obtain ⟨k20, g20, z20⟩ := news e20
 have hn5 := B.len
 have arcs19 : OwnP cI h19 (ownB A5) 3 A5 n5 K5 (ints L) := B.arcs.keep (fun x hx _ => x4 x (fun e => (B.alo x hx).2.1 e)) (by omega)
 have hz : Sz cI (fun x => x = h19.next) h20 (some ⟨h19.next, 0, none⟩) 1 2 [(b : Int)] := Sz.one g20 rfl (by omega) rfl rfl
 obtain ⟨A', K', h21, y1, y2, y3, y4⟩ := app_row (free_int _) (r := cI) tyI8 (arcs19.nw k20) hz (by omega) (by omega)
 have z21 := y3.next
 have same : ∀ x, x < h.next → x ≠ pm → ¬ ownB A5 x → h21.get x = h.get x := fun x hx h1 h2 => (y3.get x (by omega) h2).trans ((k20.get x (by omega)).trans (x4 x h1))
 have hA : ∀ x, ownB A' x → ownB A5 x ∨ h.next ≤ x := fun x hx => (y4 x hx).imp id (fun h => by omega)
 have nA : ∀ {x}, D x → ¬ ownB A5 x := fun hd ha => (B.alo _ ha).2.2.2 hd
 refine ⟨A', K', h21, y1, ⟨⟨by have := B.nw.next; omega, fun x hx => (same x (by have := B.nw.next; omega) (by omega) (fun ha => by have := (B.alo x ha).1; omega)).trans (B.nw.get x hx)⟩, B.fld.add hok ha hb hn, by simp [hn5], ?_, ?_, ?_, ?_, fun x hx => by have := B.dlo x hx; omega, fun x hx => ?_, by omega⟩, hA, by omega, same⟩
 ·have : ints (L ++ [b]) = ints L ++ [(b : Int)] := by simp [ints]
  rw [this]
  exact y2
 ·refine x2.keep ((y3.get _ (by omega) (fun ha => (B.alo _ ha).2.1 rfl)).trans (k20.get _ (by omega)))
 ·exact (same _ p5 (Ne.symm p3) (fun ha => (B.alo _ ha).2.2.1 rfl)).trans B.sbx
 ·exact B.stp.keep (fun x hx hlt => same x hlt (B.dlo x hx).2.2.1 (nA hx)) (by omega)
 ·rcases hA x hx with h1 | h1
  ·exact B.alo x h1
  ·exact ⟨by omega, by omega, by omega, fun hd => by have := (B.dlo x hd).2.1; omega⟩
end
end Eva
end
section
open Go Go.RowKit
namespace Eva
section
variable {h h' h0 h1 : AH} {N : NetD} {p : List (List Int)} {c pm sb top : Nat} {D : Nat → Prop} {A14 A5 A8 : Option Addr} {K14 i n5 K5 n8 K8 : Nat} {S : List (List Stp)} {L : List Nat} {a b : Nat} {l : List Stp}
theorem pushStp (o : OwnP cTri h (ownB A8) 353 A8 n8 K8 l) (hn : n8 ≤ 2000) (s : Stp) (e : h1 = AH.new h (.cells [.int .i64 s.1, .int .i64 s.2.1, .int .i64 s.2.2] 353 false)) :
  ∃ A' K' h2, lAppend Tryz.prog h1 (some (.slice 353)) (some (.slice 353)) (.slice A8 n8 K8) (.slice (some ⟨h.next, 0, none⟩) 1 2) = some (.slice A' (n8 + 1) K', h2) ∧ OwnP cTri h2 (ownB A') 353 A' (n8 + 1) K' (l ++ [s]) ∧ Mt (ownB A8) h h2 ∧ h.next < h2.next ∧ ∀ b, ownB A' b → ownB A8 b ∨ h.next ≤ b := by
 obtain ⟨k1, g1, z1⟩ := news e
 have hz : Sz cTri (fun x => x = h.next) h1 (some ⟨h.next, 0, none⟩) 1 2 [s] := Sz.one g1 rfl (by omega) rfl rfl
 obtain ⟨A', K', h2, y1, y2, y3, y4⟩ := app_row (free_tri _ _ _) (r := cTri) tyS (o.nw k1) hz (by omega) (by omega)
 have z2 := y3.next
 exact ⟨A', K', h2, y1, y2, ⟨by omega, fun b hb hn => (y3.get b (by omega) hn).trans (k1.get b hb)⟩, by omega, fun b hb => (y4 b hb).imp id fun h => by omega⟩
theorem AB.off (B : AB h0 N p c pm sb D A14 K14 i S h A5 n5 K5 L) (m : Mt (ownB A8) h h') (h8 : ∀ b, ownB A8 b → top ≤ b ∧ ¬ ownB A5 b) (ht : pm < top ∧ sb < top ∧ ∀ b, D b → b < top) : AB h0 N p c pm sb D A14 K14 i S h' A5 n5 K5 L := by
 obtain ⟨p1, p2, p3, p4, p5⟩ := B.pos
 obtain ⟨t1, t2, t3⟩ := ht
 have z := m.next
 have lo : ∀ {x}, x < top → ¬ ownB A8 x := fun hx hb => by have := (h8 _ hb).1; omega
 have nA : ∀ {x}, ownB A5 x → ¬ ownB A8 x := fun hx hb => (h8 _ hb).2 hx
 exact ⟨⟨by have := B.nw.next; omega, fun x hx => (m.get x (by have := B.nw.next; omega) (lo (by omega))).trans (B.nw.get x hx)⟩, B.fld, B.len, B.arcs.keep (fun x hx hlt => m.get x hlt (nA hx)) z, B.map_.keep (m.get _ p4 (lo t1)), m.bk p5 (lo t2) B.sbx, B.stp.keep (fun x hx hlt => m.get x hlt (lo (t3 x hx))) z, fun b hb => by have := B.dlo b hb; omega, B.alo, by omega⟩
end
theorem placeI_nn {l : List Nat} {a : Nat} : (0 ≤ placeI l a ↔ a ∈ l) := by
 unfold placeI
 by_cases h : a ∈ l
 ·rw [if_pos h]; exact ⟨fun _ => h, fun _ => Int.natCast_nonneg _⟩
 ·rw [if_neg h]; exact ⟨fun h' => absurd h' (by omega), fun h' => absurd h' h⟩
section
variable {h : AH} {Q : Value → AH → Prop} {Fa F F1 F2 : Nat → Prop} {g : Nat} {N : NetD} {p : List (List Int)} {c : Nat} {A1 A2 : Option Addr} {n1 n2 K1 K2 : Nat}
theorem aByArcs (G : GrA h Fa F g N) (s1 : Sa cI F1 h A1 n1 K1 (ints (N.ins p 1 c))) (s2 : Sa cI F2 h A2 n2 K2 (ints (N.outs p 1 c)))
  (hK : ∀ (L : List Nat) (S : List (List Stp)) (sb : Nat) (A' : Option Addr) (K' : Nat) (h' : AH), AFld N p c L L.length S → NextOk h' 204 #[.pointer (some ⟨sb, 0, none⟩)] L.length (stepsOf S) → Sa cI (fun b => h.next ≤ b) h' A' n1 K' (ints (List.range n1)) → Nw h h' →
   Q (.agg #[.int .i64 (L.length : Int), .slice A' n1 K', .func (.func 204) #[] #[.pointer (some ⟨sb, 0, none⟩)]]) h') :
  WC Tryz.prog 130 [.pointer (some ⟨g, 0, none⟩), .agg #[.slice A1 n1 K1, .slice A2 n2 K2]] h Q := by
 have hna := G.few.2
 have hl1 : (N.ins p 1 c).length = n1 := by simpa [ints] using s1.len
 have hl2 : (N.outs p 1 c).length = n2 := by simpa [ints] using s2.len
 have hn1 : n1 ≤ 1000 := by rw [← hl1]; exact Nat.le_trans (takeN_len _ _) hna
 have hn2 : n2 ≤ 1000 := by rw [← hl2]; exact Nat.le_trans (takeN_len _ _) hna
 have hasc : (N.ins p 1 c).Pairwise (· < ·) := takeN_asc _ _
 refine w_fill_byArcs fun h1 e1 h2 e2 => ?_
 obtain ⟨k1, g1, z1⟩ := news e1
 obtain ⟨k2, g2, z2⟩ := news e2
 have gb : Bk h2 h.next [.slice A1 n1 K1, .slice A2 n2 K2] 99 := k2.bk (by omega) g1
 have G2 := G.nw (k1.trans k2)
 have s22 := s2.nw (k1.trans k2)
 refine ⟨_, _, _, ldC_of (k2.bk (by omega) g1) rfl, aCloneP (s1.nw (k1.trans k2)) (by omega) fun A4 K4 h3 o3 k3 hA4 => ⟨_, _, _, rfl, fun h4 e4 => ?_⟩⟩
 obtain ⟨k4, g4, z4⟩ := news e4
 have z3 := k3.next
 have o3lt : ∀ b, ownB A4 b → b < h3.next := fun b hb => o3.own hb
 refine ⟨fun m x h5 => ∃ i : Nat, x = i ∧ i ≤ n1 ∧ m = n1 - i ∧ MapF kN h5 h3.next (pmF ((N.ins p 1 c).take i)) ∧ h5.next = h4.next ∧ ∀ b, b ≠ h3.next → h5.get b = h4.get b, n1, ⟨0, rfl, Nat.zero_le _, rfl, by
  have : pmF ((N.ins p 1 c).take 0) = fun _ => none := by funext x; simp [pmF]
  rw [this]; exact MapF.new g4, rfl, fun _ _ => rfl⟩, ?_⟩
 rintro m x h5 ⟨i, rfl, hi, rfl, m5, z5, q5⟩
 have k5 : Nw h3 h5 := ⟨by omega, fun b hb => (q5 b (by omega)).trans (k4.get b hb)⟩
 refine ⟨fun hlt => ?_, fun hge => ?_⟩
 ·have hil : i < n1 := by omega
  obtain ⟨b1, o1, x2, hA4', -, -, hx, e0⟩ := (o3.nw k5).sa.int (k := i) hil
  obtain ⟨a, ha⟩ : ∃ a, (N.ins p 1 c)[i]? = some a := ⟨_, List.getElem?_eq_getElem (by omega)⟩
  have hxa : x2 = (a : Int) := by simp [ints, ha] at hx; exact hx.symm
  subst hxa
  have hni : a ∉ (N.ins p 1 c).take i := fun hm => by
   obtain ⟨j, hj, he⟩ := List.mem_take_iff_getElem.1 hm
   have h2 : (N.ins p 1 c)[j]? = some a := by rw [List.getElem?_eq_getElem (by omega), he]
   have := asc_one hasc h2 ha
   omega
  obtain ⟨h6, y1, y2, y3, y4⟩ := mapPut m5 hni
  have hlen : ((N.ins p 1 c).take i).length = i := by rw [List.length_take]; omega
  rw [hlen] at y1
  refine ⟨i, rfl, b1, o1, hA4', hil, _, e0, h6, y1, _, wr_ok (by omega) (by omega), n1 - (i + 1), by omega, i + 1, by omega, by omega, rfl, ?_, by omega, fun b hb => (y4 b hb).trans (q5 b hb)⟩
  rw [List.take_add_one, ha]
  exact y2
 obtain rfl : i = n1 := by omega
 rw [List.take_of_length_le (by omega)] at m5
 clear hge hi
 intro h7 e7
 obtain ⟨k7, g7, z7⟩ := news e7
 have hpm : h3.next < h5.next := by omega
 have B7 : AB h2 N p c h3.next h5.next (fun _ => False) none 0 0 [] h7 A4 i K4 (N.ins p 1 c) := by
  have w7 := k5.trans k7
  refine ⟨k3.trans w7, AFld.start N p c, hl1, o3.nw w7, m5.keep (k7.get _ (by omega)), g7, OwnP.nil _ _ _ _, fun b hb => hb.elim, fun b hb => ?_, by omega⟩
  have := hA4 b hb
  have := o3lt b hb
  exact ⟨by omega, by omega, by omega, id⟩
 refine ⟨fun m A5 n5 K5 x h8 => ∃ (j : Nat) (L : List Nat) (S : List (List Stp)) (A14 : Option Addr) (K14 : Nat) (D : Nat → Prop), x = j ∧ m = N.na - j ∧ AB h2 N p c h3.next h5.next D A14 K14 j S h8 A5 n5 K5 L ∧ ∀ r ∈ S, r.length ≤ 1000, N.na, ⟨0, _, _, _, _, _, rfl, rfl, B7, by simp⟩, ?_⟩
 rintro m A5 n5 K5 x h8 ⟨j, L, S, A14, K14, D, rfl, rfl, B8, hS⟩
 have hLna := B8.fld.len
 have hLn := B8.len
 refine ⟨fun hlt => ?_, fun hge => ?_⟩
 ·have hj : j < n5 := by omega
  obtain ⟨b2, o2, x5, rfl, -, -, hx, e0⟩ := B8.arcs.sa.int (k := j) hj
  obtain ⟨a, ha⟩ : ∃ a, L[j]? = some a := ⟨_, List.getElem?_eq_getElem (by omega)⟩
  have hxa : x5 = (a : Int) := by simp [ints, ha] at hx; exact hx.symm
  subst hxa
  have han := (B8.fld.mem a (List.mem_of_getElem? ha)).1
  have hto := (NetD.to_lt G.ok han).1
  refine ⟨j, rfl, b2, o2, rfl, hj, _, e0, aTo (G2.nw B8.nw) han ⟨_, rfl, aOuts (G2.nw B8.nw) hto fun A6 K6 h10 s6 k6 => ⟨_, _, _, rfl, ?_⟩⟩⟩
  have hfl : (N.from_ (N.to a)).length ≤ 1000 := Nat.le_trans (takeN_len _ _) hna
  obtain ⟨bs, hbs⟩ : ∃ bs, N.from_ (N.to a) = bs := ⟨_, rfl⟩
  rw [hbs] at s6 hfl ⊢
  have B10 := B8.next k6
  have hDt : ∀ b, D b → b < h10.next := fun b hb => (B10.dlo b hb).2.1
  obtain ⟨t1, t2, t3, t4, t5⟩ := B10.pos
  refine ⟨fun m A7 n7 K7 A8 n8 K8 x h11 => ∃ (q : Nat) (L' : List Nat), x = q ∧ q ≤ bs.length ∧ m = bs.length - q ∧ AB h2 N p c h3.next h5.next D A14 K14 j S h11 A7 n7 K7 L' ∧ L'[j]? = some a ∧ (∀ b ∈ bs.take q, N.aIn (N.outs p 1 c) a b → b ∈ L') ∧ OwnP cTri h11 (ownB A8) 353 A8 n8 K8 (N.aRow (N.outs p 1 c) L' a (bs.take q)) ∧ (∀ b, ownB A8 b → h10.next ≤ b ∧ ¬ ownB A7 b) ∧ Nw h10 h10 ∧ h10.next ≤ h11.next ∧ Sa cI (fun b => h8.next ≤ b ∧ b < h10.next ∧ ¬ ownB (some ⟨b2, o2, none⟩) b) h11 A6 bs.length K6 (ints bs) ∧ (∀ b, ownB A7 b → ownB (some ⟨b2, o2, none⟩) b ∨ h10.next ≤ b), bs.length, ⟨0, L, rfl, Nat.zero_le _, rfl, B10, ha, by simp, OwnP.nil _ _ _ _, fun b hb => hb.elim, Nw.refl _, Nat.le_refl _, s6.mono fun b hb hlt => ⟨hb, hlt, fun ho => by have := B8.arcs.own ho; omega⟩, fun b hb => .inl hb⟩, ?_⟩
  rintro m A7 n7 K7 A8 n8 K8 x h11 ⟨q, L', rfl, hq, rfl, B11, ha', hcl, o8, u8, -, hz11, s11, hA7⟩
  have hn8 : n8 ≤ 1000 := by
   have h1 := o8.len
   have h2 := aRow_len N (N.outs p 1 c) L' a (bs.take q)
   have h3 : (bs.take q).length ≤ bs.length := by rw [List.length_take]; omega
   omega
  refine ⟨fun hlt => ?_, fun hge => ?_⟩
  ·have hql : q < bs.length := by omega
   obtain ⟨b3, o3', x8, hA6, -, -, hx8, f0⟩ := s11.int (k := q) hql
   obtain ⟨b, hb⟩ : ∃ b, bs[q]? = some b := ⟨_, List.getElem?_eq_getElem (by omega)⟩
   have hxb : x8 = (b : Int) := by simp [ints, hb] at hx8; exact hx8.symm
   subst hxb
   have hbn : b < N.na := ((NetD.mem_from G.ok).1 (by rw [hbs]; exact List.mem_of_getElem? hb)).1
   have tb := NetD.turn_bd G.ok a b
   have wb := NetD.w_bd G.ok b
   refine ⟨q, rfl, b3, o3', hA6, hql, _, f0, aTurn (G2.nw B11.nw) han hbn fun h12 k12 => ⟨_, rfl, aWeight (G2.nw (B11.nw.trans k12)) hbn ⟨_, rfl, ?_⟩⟩⟩
   have B12 := B11.next k12
   have o12 := o8.nw k12
   have s12 := s11.nw k12
   have hz12 := k12.next
   have hrow := aRow_succ (N := N) (outs := N.outs p 1 c) (L := L') (a := a) hb
   have w1 : IntKind.i64.wrap ((q : Int) + 1) = ((q + 1 : Nat) : Int) := by rw [Int.natCast_succ]; exact wr_ok (by omega) (by omega)
   have skip : N.aStep (N.outs p 1 c) L' a b = none → ¬ N.aIn (N.outs p 1 c) a b → ∃ x11 : Int, IntKind.i64.wrap ((q : Int) + 1) = x11 ∧ ∃ m' : Nat, m' < bs.length - q ∧ ∃ (q' : Nat) (L'' : List Nat), x11 = q' ∧ q' ≤ bs.length ∧ m' = bs.length - q' ∧ AB h2 N p c h3.next h5.next D A14 K14 j S h12 A7 n7 K7 L'' ∧ L''[j]? = some a ∧ (∀ b ∈ bs.take q', N.aIn (N.outs p 1 c) a b → b ∈ L'') ∧ OwnP cTri h12 (ownB A8) 353 A8 n8 K8 (N.aRow (N.outs p 1 c) L'' a (bs.take q')) ∧ (∀ b, ownB A8 b → h10.next ≤ b ∧ ¬ ownB A7 b) ∧ Nw h10 h10 ∧ h10.next ≤ h12.next ∧ Sa cI (fun b => h8.next ≤ b ∧ b < h10.next ∧ ¬ ownB (some ⟨b2, o2, none⟩) b) h12 A6 bs.length K6 (ints bs) ∧ (∀ b, ownB A7 b → ownB (some ⟨b2, o2, none⟩) b ∨ h10.next ≤ b) := fun hs hi => by
    refine ⟨_, w1, bs.length - (q + 1), by omega, q + 1, L', rfl, hql, rfl, B12, ha', fun y hy hin => ?_, ?_, u8, Nw.refl _, by omega, s12, hA7⟩
    ·rw [List.take_add_one, hb] at hy
     rcases List.mem_append.1 hy with hy | hy
     ·exact hcl y hy hin
     ·simp at hy; subst hy; exact absurd hin hi
    ·rw [hrow, hs]; simpa using o12
   refine ⟨fun hge => ?_, fun hlt2 => ?_⟩
   ·exact skip (by unfold NetD.aStep; rw [if_pos hge]) (fun hin => by have := hin.1; unfold INF at this; omega)
   have ht : N.turn a b < INF := Int.not_le.1 hlt2
   refine ⟨_, _, _, ldC_of (B12.nw.bk (by omega) gb) rfl, aPlace b (s22.nw B12.nw) (takeN_asc _ _) (by omega) ⟨_, rfl, fun hpl => ?_, fun hpl => ?_⟩⟩
   ·
    have hbo := placeI_nn.1 hpl
    have hplI : placeI (N.outs p 1 c) b = (((N.outs p 1 c).idxOf b : Nat) : Int) := by unfold placeI; rw [if_pos hbo]
    rw [hplI]
    intro h15 e15
    obtain ⟨A10, K10, h16, y1, y2, y3, y4, y5⟩ := pushStp o12 (by omega) (0, (((N.outs p 1 c).idxOf b : Nat) : Int), N.turn a b) e15
    refine ⟨A10, n8 + 1, K10, h16, y1, _, w1, bs.length - (q + 1), by omega, q + 1, L', rfl, hql, rfl, B12.off y3 u8 ⟨t4, t5, hDt⟩, ha', fun y hy hin => ?_, ?_, fun z hz => ?_, Nw.refl _, by omega, s12.off y3 fun z hz ho => by have := (u8 z ho).1; omega, hA7⟩
    ·rw [List.take_add_one, hb] at hy
     rcases List.mem_append.1 hy with hy | hy
     ·exact hcl y hy hin
     ·simp at hy; subst hy; exact absurd hbo hin.2.1
    ·rw [hrow, aStep_out ht hbo]; exact y2
    ·rcases y5 z hz with h9 | h9
     ·exact u8 z h9
     ·exact ⟨by omega, fun ho => by have := B12.arcs.own ho; omega⟩
   have hbo : b ∉ N.outs p 1 c := fun hm => hpl (placeI_nn.2 hm)
   refine ⟨fun hwge => ?_, fun hwlt => ?_⟩
   ·exact skip (by unfold NetD.aStep; rw [if_neg hlt2, if_neg hbo, if_pos hwge]) (fun hin => by have := hin.2.2; unfold INF at this; omega)
   have hw : N.w b < INF := Int.not_le.1 hwlt
   have hin : N.aIn (N.outs p 1 c) a b := ⟨ht, hbo, hw⟩
   have wc : IntKind.i64.wrap (N.turn a b + N.w b) = N.turn a b + N.w b := wr_ok (by omega) (by unfold INF at ht hw; omega)
   refine ⟨_, _, mapLook B12.map_ b, fun hbL => ?_, fun hbL => ?_⟩
   ·
    have hbm : b ∈ L' := of_decide_eq_true hbL
    rw [if_pos hbm]
    refine ⟨_, wc, fun h17 e17 => ?_⟩
    obtain ⟨A10, K10, h16, y1, y2, y3, y4, y5⟩ := pushStp o12 (by omega) (((L'.idxOf b : Nat) : Int), -1, N.turn a b + N.w b) e17
    refine ⟨A10, n8 + 1, K10, h16, y1, _, w1, bs.length - (q + 1), by omega, q + 1, L', rfl, hql, rfl, B12.off y3 u8 ⟨t4, t5, hDt⟩, ha', fun y hy hin' => ?_, ?_, fun z hz => ?_, Nw.refl _, by omega, s12.off y3 fun z hz ho => by have := (u8 z ho).1; omega, hA7⟩
    ·rw [List.take_add_one, hb] at hy
     rcases List.mem_append.1 hy with hy | hy
     ·exact hcl y hy hin'
     ·simp at hy; subst hy; exact hbm
    ·rw [hrow, aStep_in hin]; exact y2
    ·rcases y5 z hz with h9 | h9
     ·exact u8 z h9
     ·exact ⟨by omega, fun ho => by have := B12.arcs.own ho; omega⟩
   ·
    have hbm : b ∉ L' := of_decide_eq_false hbL
    obtain ⟨h19, u1, u2⟩ := B12.grow G.ok (by omega) ha' hin hbm
    refine ⟨h19, u1, fun h20 e20 => ?_⟩
    obtain ⟨A12, K12, h21, v1, B21, v2, v3, v4⟩ := u2 h20 e20
    have o21 : OwnP cTri h21 (ownB A8) 353 A8 n8 K8 (N.aRow (N.outs p 1 c) L' a (bs.take q)) := o12.keep (fun z hz hlt => v4 z hlt (fun e => by have := (u8 z hz).1; omega) (u8 z hz).2) v3
    refine ⟨A12, n7 + 1, K12, h21, v1, _, wc, fun h22 e22 => ?_⟩
    obtain ⟨A10, K10, h23, y1, y2, y3, y4, y5⟩ := pushStp o21 (by omega) ((n7 : Int), -1, N.turn a b + N.w b) e22
    have h8' : ∀ z, ownB A8 z → h10.next ≤ z ∧ ¬ ownB A12 z := fun z hz => ⟨(u8 z hz).1, fun ho => (v2 z ho).elim (u8 z hz).2 fun h => by have := o12.own hz; omega⟩
    have s21 := s12.keep (fun z hz hlt => v4 z hlt (fun e => hz.2.2 ((by subst e; exact absurd hz.1 (by have := B8.pos; omega)))) (fun ho => (hA7 z ho).elim hz.2.2 fun h => by omega)) v3
    have hl7 := B12.len
    refine ⟨A10, n8 + 1, K10, h23, y1, _, w1, bs.length - (q + 1), by omega, q + 1, L' ++ [b], rfl, hql, rfl, B21.off y3 h8' ⟨t4, t5, hDt⟩, by rw [List.getElem?_append_left (List.getElem?_eq_some_iff.1 ha').1]; exact ha', fun y hy hin' => ?_, ?_, fun z hz => ?_, Nw.refl _, by omega, s21.off y3 fun z hz ho => by have := (u8 z ho).1; omega, fun z hz => (v2 z hz).elim (hA7 z) fun h => .inr (by omega)⟩
    ·rw [List.take_add_one, hb] at hy
     rcases List.mem_append.1 hy with hy | hy
     ·exact List.mem_append_left _ (hcl y hy hin')
     ·simp at hy; subst hy; simp
    ·rw [aRow_succ hb, aStep_in hin, aRow_app hcl, List.idxOf_append, if_neg hbm]
     have : L'.length = n7 := hl7
     simpa [this] using y2
    ·rcases y5 z hz with h9 | h9
     ·exact h8' z h9
     ·exact ⟨by omega, fun ho => by have := B21.arcs.own ho; omega⟩
  ·
   obtain rfl : q = bs.length := by omega
   rw [List.take_length] at hcl o8
   refine ⟨_, _, _, ldC_of B11.sbx rfl, fun h24 e24 => ?_⟩
   obtain ⟨k24, g24, z24⟩ := news e24
   have own24 := B11.stp.nw k24
   have hz : Sz (Rc.slice cTri) (fun z => z = h11.next ∨ ownB A8 z) h24 (some ⟨h11.next, 0, none⟩) 1 2 [N.aRow (N.outs p 1 c) L' a bs] :=
    Sz.one g24 (.inl rfl) (by omega) rfl ⟨A8, n8, K8, rfl, (o8.nw k24).sa.mono fun z hz _ => .inr hz⟩
   have hi14 : j ≤ 1000 := by have := B11.fld.le; have := B11.fld.len; omega
   have nD : ∀ {z}, D z → z < h10.next := fun hd => hDt _ hd
   have h14D : ∀ z, ownB A14 z → D z := fun z hz => (B11.stp.lt hz).1
   obtain ⟨A15, K15, h25, y1, y2, y3, y4⟩ := app_rows (r := Rc.slice cTri) (bytes := 24) tySs own24 hz (fun z hz ho => by
    have := nD (h14D z ho)
    rcases hz with h9 | h9
    ·omega
    ·have := (u8 z h9).1; omega) (by omega) (by omega)
   obtain ⟨p1, p2, p3, p4, p5⟩ := B11.pos
   have z25 := y3.next
   have sb25 : Bk h25 h5.next [.slice A14 j K14] 350 := y3.bk (by omega) (fun ho => (B11.dlo _ (h14D _ ho)).2.2.2 rfl) (k24.bk p5 B11.sbx)
   obtain ⟨h26, s26, b26, z26, o26⟩ := st_one (v := .slice A15 (j + 1) K15) sb25 (o := 0) (by simp) rfl
   have same : ∀ z, z < h11.next → z ≠ h5.next → ¬ ownB A14 z → h26.get z = h11.get z := fun z hz h1 h2 => (o26 z h1).trans ((y3.get z (by omega) h2).trans (k24.get z hz))
   have w1 : IntKind.i64.wrap ((j : Int) + 1) = ((j + 1 : Nat) : Int) := by rw [Int.natCast_succ]; exact wr_ok (by omega) (by omega)
   refine ⟨A15, j + 1, K15, h25, y1, h26, s26, _, w1, N.na - (j + 1), by have := B11.fld.le; have := B11.fld.len; omega, j + 1, L', S ++ [N.aRow (N.outs p 1 c) L' a bs], A15, K15, fun b => (D b ∨ (b = h11.next ∨ ownB A8 b) ∨ b = h24.next) ∧ b < h25.next, rfl, rfl, ⟨⟨by have := B11.nw.next; omega, fun z hz => (same z (by have := B11.nw.next; omega) (by omega) (fun ho => by have := (B11.dlo z (h14D z ho)).1; omega)).trans (B11.nw.get z hz)⟩, by rw [← hbs]; exact B11.fld.next G.ok ha' (by rw [hbs]; exact hcl), B11.len, ?_, ?_, b26, ?_, fun z hz => ?_, fun z hz => ?_, by omega⟩, fun r hr => ?_⟩
   ·exact B11.arcs.keep (fun z hz hlt => same z hlt (B11.alo z hz).2.2.1 (fun ho => (B11.alo z hz).2.2.2 (h14D z ho))) (by omega)
   ·exact B11.map_.keep (same _ (by omega) (by omega) (fun ho => (B11.dlo _ (h14D _ ho)).2.2.1 rfl))
   ·refine (y2.mono (D' := fun b => (D b ∨ (b = h11.next ∨ ownB A8 b) ∨ b = h24.next) ∧ b < h25.next) fun z hz hlt => ⟨hz, hlt⟩).keep (fun z hz hlt => o26 z ?_) (by omega)
    rcases hz.1 with h9 | (h9 | h9) | h9
    ·exact (B11.dlo z h9).2.2.2
    ·omega
    ·have := (u8 z h9).1; omega
    ·omega
   ·have e2 := hz.2
    rcases hz.1 with h9 | (h9 | h9) | h9
    ·have := B11.dlo z h9; omega
    ·omega
    ·have := (u8 z h9).1; omega
    ·omega
   ·obtain ⟨a1, a2, a3, a4⟩ := B11.alo z hz
    have := B11.arcs.own hz
    refine ⟨a1, a2, a3, fun h9 => ?_⟩
    rcases h9.1 with h9 | (h9 | h9) | h9
    ·exact a4 h9
    ·omega
    ·exact (u8 z h9).2 hz
    ·omega
   ·rcases List.mem_append.1 hr with hr | hr
    ·exact hS r hr
    ·simp at hr
     subst hr
     have := aRow_len N (N.outs p 1 c) L' a bs
     omega
 ·
  have hjL : j = L.length := by have := B8.fld.le; omega
  intro h27 e27
  obtain ⟨h28, s28, k28, g28, z28⟩ := box_st (vs := [.int .i64 n5, .slice none 0 0, .nilFunc]) e27 rfl (flat3 rfl rfl rfl)
  have nw28 := B8.nw.trans k28
  obtain ⟨p1, p2, p3, p4, p5⟩ := B8.pos
  refine ⟨h28, s28, _, _, _, ldC_of (nw28.bk (by omega) gb) rfl, fun m x h29 => ∃ (q : Nat) (A17 : Option Addr) (K17 : Nat), x = q ∧ q ≤ i ∧ m = i - q ∧ Bk h29 h8.next [.int .i64 n5, .slice A17 q K17, .nilFunc] 259 ∧ OwnP cI h29 (ownB A17) 3 A17 q K17 (ints (List.range q)) ∧ (∀ b, ownB A17 b → h28.next ≤ b) ∧ h28.next ≤ h29.next ∧ (∀ b, b < h28.next → b ≠ h8.next → h29.get b = h28.get b), i, ⟨0, none, 0, rfl, Nat.zero_le _, rfl, g28, OwnP.nil _ _ _ _, fun b hb => hb.elim, Nat.le_refl _, fun _ _ _ => rfl⟩, ?_⟩
  rintro m x h29 ⟨q, A17, K17, rfl, hq, rfl, b29, o29, lo29, hz29, q29⟩
  refine ⟨fun hlt => ?_, fun hge => ?_⟩
  ·refine ⟨_, _, _, ldC_of b29 rfl, fun h30 e30 => ?_⟩
   obtain ⟨k30, g30, z30⟩ := news e30
   have hz : Sz cI (fun z => z = h29.next) h30 (some ⟨h29.next, 0, none⟩) 1 2 [(q : Int)] := Sz.one g30 rfl (by omega) rfl rfl
   obtain ⟨A18, K18, h31, y1, y2, y3, y4⟩ := app_row (free_int _) (r := cI) tyI8 (o29.nw k30) hz (by omega) (by omega)
   have z31 := y3.next
   have b31 : Bk h31 h8.next [.int .i64 n5, .slice A17 q K17, .nilFunc] 259 := y3.bk (by omega) (fun ho => by have := lo29 _ ho; omega) (k30.bk (by omega) b29)
   obtain ⟨h32, s32, b32, z32, o32⟩ := st_one (v := .slice A18 (q + 1) K18) b31 (o := 1) (by simp) rfl
   have lo18 : ∀ z, ownB A18 z → h28.next ≤ z := fun z hz => (y4 z hz).elim (lo29 z) (fun h => by omega)
   refine ⟨A18, q + 1, K18, h31, y1, h32, s32, _, wr_ok (by omega) (by omega), i - (q + 1), by omega, q + 1, A18, K18, by omega, by omega, rfl, b32, ?_, lo18, by omega, fun z hz hne => (o32 z hne).trans ((y3.get z (by omega) (fun ho => by have := lo29 _ ho; omega)).trans ((k30.get z (by omega)).trans (q29 z hz hne)))⟩
   have : ints (List.range (q + 1)) = ints (List.range q) ++ [(q : Int)] := by simp [ints, List.range_succ]
   rw [this]
   exact y2.keep (fun z hz _ => o32 z (by have := lo18 z hz; omega)) (by omega)
  ·obtain rfl : q = i := by omega
   obtain ⟨h33, s33, b33, z33, o33⟩ := st_one (v := .func (.func 204) #[] #[.pointer (some ⟨h5.next, 0, none⟩)]) b29 (o := 2) (by simp) rfl
   have f33 : Bk h33 h1.next [.int .i64 0, .slice none 0 0, .nilFunc] 259 := (o33 _ (by omega)).trans ((q29 _ (by omega) (by omega)).trans (nw28.bk (by omega) g2))
   obtain ⟨h34, s34, b34, z34, o34⟩ := st_all (vs := [.int .i64 n5, .slice A17 q K17, .func (.func 204) #[] #[.pointer (some ⟨h5.next, 0, none⟩)]]) f33 rfl (flat3 rfl rfl rfl)
   have same : ∀ z, z < h28.next → z ≠ h8.next → z ≠ h1.next → h34.get z = h28.get z := fun z hz h1 h2 => (o34 z h2).trans ((o33 z h1).trans (q29 z hz h1))
   refine ⟨h33, s33, _, _, _, _, _, _, ldN_bk b33 (by simp), h34, s34, _, _, _, _, _, _, ldN_bk b34 (by simp), ?_⟩
   have hnw : Nw h h34 := ⟨by omega, fun z hz => (same z (by omega) (by omega) (by omega)).trans ((nw28.get z (by omega)).trans ((k1.trans k2).get z hz))⟩
   have hA17 : Sa cI (fun b => h.next ≤ b) h34 A17 q K17 (ints (List.range q)) := ((o29.keep (fun z hz _ => (o34 z (by have := lo29 z hz; omega)).trans (o33 z (by have := lo29 z hz; omega))) (by omega)).sa).mono fun z hz _ => by have := lo29 z hz; omega
   have hsb : Bk h34 h5.next [.slice A14 j K14] 350 := (same _ (by omega) (by omega) (by omega)).trans (k28.bk p5 B8.sbx)
   have hst : Sa (Rc.slice cTri) D h34 A14 j K14 S := B8.stp.sa.keep (fun z hz hlt => (same z (by omega) (by omega) (by have := (B8.dlo z hz).1; omega)).trans (k28.get z hlt)) (by omega)
   have hnx : NextOk h34 204 #[.pointer (some ⟨h5.next, 0, none⟩)] j (stepsOf S) := nextArcs (by omega) (ldC_of hsb rfl) hst (fun r hr => by have := hS r hr; omega)
   have hfl := B8.fld
   rw [hjL] at hnx hfl
   have := hK L S h5.next A17 K17 h34 hfl hnx hA17 hnw
   rw [hLn] at this
   exact this
end
end Eva
end
section
open Go Go.RowKit
def toldP (costs : List Int) (first : Nat) (ls : List Stp) (j : Nat) : List Stp := (List.range j).filterMap (told1 costs first ls)
theorem toldP_succ (costs : List Int) (first : Nat) (ls : List Stp) (j : Nat) : toldP costs first ls (j + 1) = toldP costs first ls j ++ (told1 costs first ls j).toList := by
 unfold toldP
 rw [List.range_succ, List.filterMap_append]
 cases h : told1 costs first ls j <;> simp [List.filterMap_cons, h]
theorem toldP_more (costs : List Int) (first : Nat) (ls : List Stp) {j n : Nat} (h : j ≤ n) : ∃ M, toldP costs first ls n = toldP costs first ls j ++ M := by
 induction n with
 | zero => obtain rfl := Nat.le_zero.1 h; exact ⟨[], by simp⟩
 | succ n ih =>
  rcases Nat.eq_or_lt_of_le h with rfl | h1
  ·exact ⟨[], by simp⟩
  ·obtain ⟨M, hM⟩ := ih (by omega)
   exact ⟨M ++ (told1 costs first ls n).toList, by rw [toldP_succ, hM, List.append_assoc]⟩
theorem toldP_get {costs : List Int} {first : Nat} {ls : List Stp} {j : Nat} {s : Stp} (hj : j < ls.length) (h : told1 costs first ls j = some s) : (toldK costs first ls)[(toldP costs first ls j).length]? = some s := by
 obtain ⟨M, hM⟩ := toldP_more costs first ls (show j + 1 ≤ ls.length from hj)
 rw [toldP_succ, h] at hM
 show (toldP costs first ls ls.length)[_]? = _
 rw [hM, List.append_assoc, List.getElem?_append_right (Nat.le_refl _), Nat.sub_self]
 rfl
theorem kid_next {N : NetD} {p : List (List Int)} {k c : Nat} {ks : List Nat} (hK : KidsIn N p k c ks) (hok : N.Ok) (hp : PartOk N.nv p) (hk : 2 ≤ k) (hkl : k ≤ p.length) {d m : Nat} (hd : d ∈ ks) (hm : m ∈ N.outs p (k - 1) d) (hn : m ∉ N.outs p k c) : m ∈ N.LK p k ks ks.length := by
 obtain ⟨g1, g2, g3⟩ := NetD.mem_outs.1 hm
 obtain ⟨v, v1, v2, v3⟩ := (hK.mem d).1 hd
 have hf := (NetD.fr_lt hok g1).1
 have e1 : cel p k (N.fr m) = cel p k v := cel_nest hp (l := k - 1) (by omega) (by omega) hkl hf v1 (g2.trans v3.symm)
 have e2 : cel p k (N.to m) = c := by
  by_cases e : cel p k (N.to m) = c
  ·exact e
  ·exact absurd (NetD.mem_outs.2 ⟨g1, e1.trans v2, e⟩) hn
 exact (hK.in_kid hok hp hk hkl).2 ⟨g1, e2, rfl, by rw [g2]; exact fun h => g3 h.symm⟩
namespace Eva
section
variable {h h0 : AH} {Q : Value → AH → Prop} {F F1 F2 F3 : Nat → Prop} {A1 A2 A3 : Option Addr} {n n2 n3 K1 K2 K3 : Nat}
theorem nextKids {spots : List (Int × Int)} {lists : List (List Stp)} {costs : List Int} {sp lb cb : Nat} (hlt : sp < h0.next ∧ lb < h0.next ∧ cb < h0.next) (b1 : ldC h0 sp 0 = some (.slice A1 n K1)) (s1 : Sa cPr F1 h0 A1 n K1 spots) (b2 : ldC h0 lb 0 = some (.slice A2 n2 K2)) (s2 : Sa (Rc.slice cTri) F2 h0 A2 n2 K2 lists) (b3 : ldC h0 cb 0 = some (.slice A3 n3 K3)) (s3 : Sa cI F3 h0 A3 n3 K3 costs)
  (hn3 : n3 ≤ 1000000) (hsp : ∀ x ∈ spots, ∃ i r, x.2 = ((i : Nat) : Int) ∧ lists[i]? = some r ∧ r.length ≤ 100000 ∧ (r = [] ∨ (0 ≤ x.1 ∧ x.1.toNat + r.length ≤ n3))) (hc : ∀ c ∈ costs, 0 ≤ c) (hl : ∀ r ∈ lists, ∀ s ∈ r, 0 ≤ s.2.2) :
  NextOk h0 207 #[.pointer (some ⟨sp, 0, none⟩), .pointer (some ⟨lb, 0, none⟩), .pointer (some ⟨cb, 0, none⟩)] n (fun q => match spots[q]? with | some x => toldK costs x.1.toNat ((lists[x.2.toNat]?).getD []) | none => []) := by
 refine ⟨by kernel_rfl, fun a ha h tg tfb J Q hJn hJs htg htell hJ0 hQ => ?_⟩
 have nw0 := hJn 0 h hJ0
 obtain ⟨ba, oa, x, y, rfl, -, hba, hx, e0, e1⟩ := s1.pair (k := a) ha
 obtain ⟨i, r, hi, hr, hrl, hrr⟩ := hsp (x, y) (List.mem_of_getElem? hx)
 simp only at hi hrr
 subst hi
 have hin2 : i < n2 := by rw [← s2.len]; exact (List.getElem?_eq_some_iff.1 hr).1
 obtain ⟨bb, ob, A4, n4, K4, r', rfl, -, hbb, hr', f0, s4⟩ := s2.row (k := i) hin2
 rw [hr] at hr'
 injection hr' with hr'
 subst hr'
 have hn4 : r.length = n4 := s4.len
 simp only [hx, Int.toNat_natCast, hr, Option.getD_some] at htell hQ
 have hcl := s3.len
 refine w_fill_byKids_1 ⟨sp, 0, rfl, _, _, _, (nw0.ldC hlt.1 0).trans b1, a, rfl, _, _, rfl, ha, _, (nw0.ldC hba _).trans e0, lb, 0, rfl, _, _, _, (nw0.ldC hlt.2.1 0).trans b2, _, _, _, (nw0.ldC hlt.1 0).trans b1, _, _, rfl, ha, _, (nw0.ldC hba _).trans e1, i, rfl, _, _, rfl, hin2, _, _, _, (nw0.ldC hbb _).trans f0,
  fun m z h1 => ∃ j : Nat, z = j ∧ j ≤ n4 ∧ m = n4 - j ∧ J (toldP costs x.toNat r j).length h1, n4, ⟨0, rfl, Nat.zero_le _, rfl, hJ0⟩, ?_⟩
 rintro m z h1 ⟨j, rfl, hj, rfl, hJ1⟩
 refine ⟨fun hlt' => ?_, fun hge => ?_⟩
 ·have hjn : j < n4 := by omega
  have nw1 := hJn _ _ hJ1
  obtain ⟨bt, ot, x5, x6, x7, rfl, -, -, hx5, t0, t1, t2⟩ := (s4.nw nw1).tri (k := j) hjn
  have hx7 : 0 ≤ x7 := hl r (List.mem_of_getElem? hr) _ (List.mem_of_getElem? hx5)
  have hx0 : 0 ≤ x ∧ x.toNat + r.length ≤ n3 := hrr.resolve_left (fun e => by rw [e] at hx5; simp at hx5)
  obtain ⟨f, rfl⟩ := Int.eq_ofNat_of_zero_le hx0.1
  simp only [Int.toNat_natCast] at hx0 hJ1 htell hQ ⊢
  refine ⟨j, rfl, _, _, rfl, hjn, _, _, _, ldN3 t0 t1 t2, fun h2 e2 => ?_⟩
  obtain ⟨h3, q3, k3, g3, z3⟩ := box_st (vs := [.int .i64 x5, .int .i64 x6, .int .i64 x7]) e2 rfl (flat3 rfl rfl rfl)
  have nw3 := nw1.trans k3
  have w8 : IntKind.i64.wrap ((f : Int) + (j : Int)) = ((f + j : Nat) : Int) := by rw [Int.natCast_add]; exact wr_ok (by omega) (by omega)
  have w1 : IntKind.i64.wrap ((j : Int) + 1) = ((j + 1 : Nat) : Int) := by rw [Int.natCast_succ]; exact wr_ok (by omega) (by omega)
  obtain ⟨b8, o8, x10, hA3, -, -, hx10, c0⟩ := (s3.nw nw3).int (k := f + j) (by omega)
  have h10 : at_ costs (f + j) = x10 := by unfold at_; rw [hx10]; rfl
  have hx10n := hc _ (List.mem_of_getElem? hx10)
  have hsk : told1 costs f r j = none → ∃ x19 : Int, IntKind.i64.wrap ((j : Int) + 1) = x19 ∧ ∃ m' : Nat, m' < n4 - j ∧ ∃ j' : Nat, x19 = j' ∧ j' ≤ n4 ∧ m' = n4 - j' ∧ J (toldP costs f r j').length h3 := fun ht => by
   refine ⟨_, w1, n4 - (j + 1), by omega, j + 1, rfl, by omega, rfl, ?_⟩
   rw [toldP_succ, ht]
   simpa using hJs _ _ _ hJ1 k3
  refine ⟨h3, q3, _, w8, cb, 0, rfl, _, _, _, (nw3.ldC hlt.2.2 0).trans b3, fun h => absurd h (by omega), fun _ => ⟨_, _, _, (nw3.ldC hlt.2.2 0).trans b3, _, w8, f + j, rfl, b8, o8, hA3, by omega, _, c0, fun ht => ⟨_, ldC_of g3 rfl, fun hs => ?_, fun hs => ?_⟩, fun ht => ?_⟩⟩
  ·have ht1 : told1 costs f r j = some (x5, x6, x7 + x10) := by
    unfold told1
    rw [hx5]
    simp only [h10]
    rw [if_pos ⟨ht, hs⟩]
   obtain ⟨h4, q4, g4, z4, o4⟩ := st_one (v := .int .i64 (x7 + x10)) g3 (o := 2) (by simp) rfl
   have k4 : Nw h1 h4 := ⟨by have := k3.next; omega, fun b hb => (o4 b (by omega)).trans (k3.get b hb)⟩
   refine ⟨_, ldC_of g3 rfl, _, wr_ok (by omega) (by omega), h4, q4, _, _, _, ldN_bk g4 (by simp), htg, ?_⟩
   refine htell _ (x5, x6, x7 + x10) h4 _ (hJs _ _ _ hJ1 k4) (toldP_get (by omega) ht1) fun h5 hJ5 => ⟨rfl, _, w1, n4 - (j + 1), by omega, j + 1, rfl, by omega, rfl, ?_⟩
   rw [toldP_succ, ht1]
   simpa using hJ5
  ·exact hsk (by unfold told1; rw [hx5]; simp only [h10]; rw [if_neg (fun h => hs h.2)])
  ·exact hsk (by unfold told1; rw [hx5]; simp only [h10]; rw [if_neg (fun h => ht h.1)])
 ·obtain rfl : j = r.length := by omega
  exact hQ h1 hJ1
theorem oAt0 {o : Nat} {N : NetD} {p : List (List Int)} (O : OvA h F o N p) {k d j : Nat} (hk : 2 ≤ k) (hkl : k ≤ p.length) (hd : d < most p (k - 1)) (hj : j < (N.ins p (k - 1) d).length)
  (hK : ∀ h', Nw h h' → Q (.int .i64 (N.firstK p k d j)) h') : WC Tryz.prog 10 [.pointer (some ⟨o, 0, none⟩), .int .i64 ((k - 1 : Nat) : Int), .int .i64 d, .int .i64 j, .int .i64 0] h Q := by
 unfold NetD.firstK at hK
 rcases Nat.eq_zero_or_pos (N.outs p (k - 1) d).length with h0 | h0
 ·have he : N.outs p (k - 1) d = [] := List.eq_nil_of_length_eq_zero h0
  rw [if_pos he] at hK
  obtain ⟨k', rfl⟩ : ∃ k', k = k' + 2 := ⟨k - 2, by omega⟩
  have e1 : k' + 2 - 1 = k' + 1 := rfl
  rw [e1] at hd hj h0 ⊢
  have hp6 := O.hp.few
  obtain ⟨b1, o1, n1, K1, b2, o2, K2, A3, K3, A4, K4, c3, hkn, l1, e2, l2, e3, e4, s3, s4⟩ := O.gate_ (k := k') (by omega) hd
  rw [h0] at e4
  refine w_over_Over_At (oHas O (by omega) (by omega) hd ⟨_, rfl, fun _ => ?_, fun h => Bool.noConfusion h⟩)
  refine ⟨_, _, rfl, _, _, _, c3, _, wr_ok (by omega) (by omega), k', by omega, _, _, rfl, hkn, _, _, _, e2, d, rfl, _, _, rfl, hd, _, _, _, _, _, _, ldN2 e3 e4, fun h2 e7 => ?_⟩
  obtain ⟨h3, hs3, k3, g3, z3⟩ := box_st (vs := [.slice A3 (N.ins p (k' + 1) d).length K3, .slice A4 0 K4]) e7 rfl (flat2 rfl rfl)
  exact ⟨h3, hs3, fun h => absurd h (by omega), fun _ => ⟨_, _, _, ldC_of g3 rfl, fun h => absurd h (by omega), fun _ => ⟨fun h => absurd h (by omega), fun _ => ⟨_, _, _, ldC_of g3 rfl, fun _ => hK _ k3, fun h => absurd (Int.le_refl _) h⟩⟩⟩⟩
 ·rw [if_neg (fun e => by rw [e] at h0; simp at h0)] at hK
  refine oAt O (j := 0) (by omega) (by omega) hd hj h0 fun h' k' => ?_
  have := hK h' k'
  rwa [Nat.add_zero]
end
end Eva
end
section
open Go Go.RowKit
namespace Eva
theorem tyG : tyB Tryz.prog 99 2 48 = true := by kernel_rfl
theorem tySp : tyB Tryz.prog 357 2 16 = true := by kernel_rfl
def gatesK (N : NetD) (p : List (List Int)) (k : Nat) (ks : List Nat) (i : Nat) : List (List Int × List Int) := (List.range i).map fun j => (ints (N.ins p (k - 1) ((ks[j]?).getD 0)), ints (N.outs p (k - 1) ((ks[j]?).getD 0)))
theorem gatesK_succ (N : NetD) (p : List (List Int)) (k : Nat) (ks : List Nat) (i : Nat) : gatesK N p k ks (i + 1) = gatesK N p k ks i ++ [(ints (N.ins p (k - 1) ((ks[i]?).getD 0)), ints (N.outs p (k - 1) ((ks[i]?).getD 0)))] := by
 unfold gatesK
 rw [List.range_succ, List.map_append]; rfl
structure KB (h0 : AH) (lo pm sb : Nat) (D : Nat → Prop) (A5 : Option Addr) (i K5 : Nat) (gs : List (List Int × List Int)) (h : AH) (L : List Nat) (sp : List (Int × Int)) : Prop where
 nw : Nw h0 h
 gates : OwnP Rc.gate h D 99 A5 i K5 gs
 map_ : MapF kN h pm (pmF L)
 spt : ∃ A12 K12, Bk h sb [.slice A12 L.length K12] 355 ∧ OwnP cPr h (ownB A12) 357 A12 L.length K12 sp ∧ (∀ b, ownB A12 b → lo ≤ b ∧ b ≠ pm ∧ b ≠ sb ∧ ¬ D b)
 dlo : ∀ b, D b → lo ≤ b ∧ b < h.next ∧ b ≠ pm ∧ b ≠ sb
 pos : h0.next ≤ pm ∧ h0.next ≤ sb ∧ pm ≠ sb ∧ pm < h.next ∧ sb < h.next
 hlo : h0.next ≤ lo ∧ lo ≤ h.next
section
variable {h h' h0 : AH} {Q : Value → AH → Prop} {N : NetD} {p : List (List Int)} {lo pm sb : Nat} {D : Nat → Prop} {A5 : Option Addr} {i K5 : Nat} {gs : List (List Int × List Int)} {L : List Nat} {sp : List (Int × Int)} {a : Nat}
theorem KB.next (B : KB h0 lo pm sb D A5 i K5 gs h L sp) (a : Nw h h') : KB h0 lo pm sb D A5 i K5 gs h' L sp := by
 obtain ⟨A12, K12, s1, s2, s3⟩ := B.spt
 obtain ⟨p1, p2, p3, p4, p5⟩ := B.pos
 have z := a.next
 exact ⟨B.nw.trans a, B.gates.nw a, B.map_.keep (a.get _ p4), ⟨A12, K12, a.bk p5 s1, s2.nw a, s3⟩, fun b hb => by have := B.dlo b hb; omega, by omega, by have := B.hlo; omega⟩
theorem KB.push (B : KB h0 lo pm sb D A5 i K5 gs h L sp) (hn : a ∉ L) (hL : L.length ≤ 2000) : ∃ A12 K12, ldC h sb 0 = some (.slice A12 L.length K12) ∧ EqOk (.slice A12 L.length K12) ∧
  ∃ h14, lMap Tryz.prog h (some (.map 3 3)) (.map (some pm)) (.int .i64 (a : Int)) (.int .i64 (L.length : Int)) = some (undef, h14) ∧ ldC h14 sb 0 = some (.slice A12 L.length K12) ∧ h14.next = h.next ∧ (∀ b, b ≠ pm → h14.get b = h.get b) ∧
   ∀ h15 x y, Nw h14 h15 → ldC h15 sb 0 = some (.slice A12 L.length K12) ∧ ∀ h16, h16 = AH.new h15 (.cells [.int .i64 x, .int .i64 y] 357 false) →
    ∃ A14 K14 h17, lAppend Tryz.prog h16 (some (.slice 357)) (some (.slice 357)) (.slice A12 L.length K12) (.slice (some ⟨h15.next, 0, none⟩) 1 2) = some (.slice A14 (L.length + 1) K14, h17) ∧
     ∃ h18, stC h17 sb 0 [.slice A14 (L.length + 1) K14] = some h18 ∧ KB h0 lo pm sb D A5 i K5 gs h18 (L ++ [a]) (sp ++ [(x, y)]) ∧ h.next ≤ h18.next ∧ (∀ b, b < h.next → b ≠ pm → b ≠ sb → (b < lo ∨ D b) → h18.get b = h.get b) := by
 obtain ⟨A12, K12, s1, s2, s3⟩ := B.spt
 obtain ⟨p1, p2, p3, p4, p5⟩ := B.pos
 obtain ⟨q1', q2'⟩ := B.hlo
 obtain ⟨h14, x1, x2, x3, x4⟩ := mapPut B.map_ hn
 have sb14 : Bk h14 sb [.slice A12 L.length K12] 355 := (x4 _ (Ne.symm p3)).trans s1
 refine ⟨A12, K12, ldC_of s1 rfl, s2.spot, h14, x1, ldC_of sb14 rfl, x3, x4, fun h15 x y k15 => ⟨ldC_of (k15.bk (by omega) sb14) rfl, fun h16 e16 => ?_⟩⟩
 obtain ⟨k16, g16, z16⟩ := news e16
 have z15 := k15.next
 have o14 : OwnP cPr h14 (ownB A12) 357 A12 L.length K12 sp := s2.keep (fun b hb _ => x4 b (s3 b hb).2.1) (by omega)
 have hz : Sz cPr (fun z => z = h15.next) h16 (some ⟨h15.next, 0, none⟩) 1 2 [(x, y)] := Sz.one g16 rfl (by omega) rfl rfl
 obtain ⟨A14, K14, h17, y1, y2, y3, y4⟩ := app_row (free_pair _ _) (r := cPr) tySp (o14.nw (k15.trans k16)) hz (by omega) (by omega)
 have z17 := y3.next
 have sb17 : Bk h17 sb [.slice A12 L.length K12] 355 := y3.bk (by omega) (fun ho => (s3 _ ho).2.2.1 rfl) ((k15.trans k16).bk (by omega) sb14)
 obtain ⟨h18, q1, q2, q3, q4⟩ := st_one (v := .slice A14 (L.length + 1) K14) sb17 (o := 0) (by simp) rfl
 have same : ∀ b, b < h.next → b ≠ pm → b ≠ sb → ¬ ownB A12 b → h18.get b = h.get b := fun b hb h1 h2 h3 => (q4 b h2).trans ((y3.get b (by omega) h3).trans (((k15.trans k16).get b (by omega)).trans (x4 b h1)))
 have nA : ∀ {b}, D b → ¬ ownB A12 b := fun hd ha => (s3 _ ha).2.2.2 hd
 have lo14 : ∀ b, ownB A14 b → lo ≤ b ∧ b ≠ pm ∧ b ≠ sb ∧ ¬ D b := fun b hb => by
  rcases y4 b hb with h1 | h1
  ·exact s3 b h1
  ·exact ⟨by omega, by omega, by omega, fun hd => by have := (B.dlo b hd).2.1; omega⟩
 refine ⟨A14, K14, h17, y1, h18, q1, ⟨⟨by have := B.nw.next; omega, fun b hb => (same b (by have := B.nw.next; omega) (by omega) (by omega) (fun ho => by have := (s3 b ho).1; omega)).trans (B.nw.get b hb)⟩, ?_, ?_, ⟨A14, K14, ?_, ?_, lo14⟩, fun b hb => by have := B.dlo b hb; omega, by omega, by omega⟩, by omega, fun b hb h1 h2 hd => same b hb h1 h2 (hd.elim (fun hlt ho => by have := (s3 _ ho).1; omega) nA)⟩
 ·exact B.gates.keep (fun b hb hlt => same b hlt (B.dlo b hb).2.2.1 (B.dlo b hb).2.2.2 (nA hb)) (by omega)
 ·exact x2.keep ((q4 _ p3).trans ((y3.get _ (by omega) (fun ho => (s3 _ ho).2.1 rfl)).trans ((k15.trans k16).get _ (by omega))))
 ·rw [List.length_append]; exact q2
 ·rw [List.length_append]
  exact y2.keep (fun b hb _ => q4 b (lo14 b hb).2.2.1) (by omega)
end
end Eva
end
end Go.Proofs.YtbbmelmllcaopaaGreatDoor
