/-
A part of the proof of TopTurned: lemmas that the last text joins. No condition.
-/
import Derived.Test.YtbbmelmllcaopaaGreatDoorPl
import Derived.Test.YtbbmelmllcaopaaGreatDoorPf
import Derived.Test.YtbbmelmllcaopaaGreatDoorPh
namespace Go.Proofs.YtbbmelmllcaopaaGreatDoor
set_option linter.unusedVariables false
set_option linter.unusedSimpArgs false
set_option linter.unusedSectionVars false
set_option linter.unnecessarySimpa false
section
open Go Go.RowKit
namespace Eva
def nilS : Value := .slice none 0 0
structure KC (h0 : AH) (LB lb n i : Nat) (kl : Nat → List Stp) (h : AH) (vals : List Value) (D : Nat → Prop) (A : Option Addr) (m K : Nat) (cur : List Stp) : Prop where
 nw : Nw h0 h
 blk : Bk h LB (vals ++ .slice A m K :: List.replicate (n - (i + 1)) nilS) 351
 lbx : Bk h lb [.slice (some ⟨LB, 0, none⟩) n (cx n)] 350
 vl : vals.length = i ∧ i < n
 old : ∀ j v, vals[j]? = some v → ∃ A n K, v = .slice A n K ∧ Sa cTri D h A n K (kl j)
 own : OwnP cTri h (ownB A) 353 A m K cur
 dlo : ∀ b, D b → h0.next ≤ b ∧ b < h.next ∧ b ≠ LB ∧ b ≠ lb ∧ ¬ ownB A b
 alo : ∀ b, ownB A b → h0.next ≤ b ∧ b ≠ LB ∧ b ≠ lb
 pos : h0.next ≤ LB ∧ h0.next ≤ lb ∧ LB ≠ lb ∧ LB < h.next ∧ lb < h.next
section
variable {h h' h0 : AH} {LB lb n i m K : Nat} {kl : Nat → List Stp} {vals : List Value} {D : Nat → Prop} {A : Option Addr} {cur : List Stp}
theorem KC.next (C : KC h0 LB lb n i kl h vals D A m K cur) (a : Nw h h') : KC h0 LB lb n i kl h' vals D A m K cur := by
 obtain ⟨p1, p2, p3, p4, p5⟩ := C.pos
 have z := a.next
 refine ⟨C.nw.trans a, a.bk p4 C.blk, a.bk p5 C.lbx, C.vl, fun j v hj => ?_, C.own.nw a, fun b hb => by have := C.dlo b hb; exact ⟨this.1, by omega, this.2.2⟩, C.alo, by omega⟩
 obtain ⟨A', n', K', h1, h2⟩ := C.old j v hj
 exact ⟨A', n', K', h1, h2.nw a⟩
theorem KC.cell (C : KC h0 LB lb n i kl h vals D A m K cur) : ldC h LB (0 + i) = some (.slice A m K) := by
 rw [ldC_bk C.blk, Nat.zero_add, List.getElem?_append_right (by rw [C.vl.1]; exact Nat.le_refl _), C.vl.1, Nat.sub_self]
 rfl
theorem KC.push (C : KC h0 LB lb n i kl h vals D A m K cur) (hm : m ≤ 2000) (s : Stp) : ∀ h32, h32 = AH.new h (.cells [.int .i64 s.1, .int .i64 s.2.1, .int .i64 s.2.2] 353 false) →
  ∃ A' K' h33, lAppend Tryz.prog h32 (some (.slice 353)) (some (.slice 353)) (.slice A m K) (.slice (some ⟨h.next, 0, none⟩) 1 2) = some (.slice A' (m + 1) K', h33) ∧ ldC h33 lb 0 = some (.slice (some ⟨LB, 0, none⟩) n (cx n)) ∧
   ∃ h34, stC h33 LB (0 + i) [.slice A' (m + 1) K'] = some h34 ∧ KC h0 LB lb n i kl h34 vals D A' (m + 1) K' (cur ++ [s]) := by
 intro h32 e32
 obtain ⟨p1, p2, p3, p4, p5⟩ := C.pos
 obtain ⟨A', K', h33, y1, y2, y3, y4, y5⟩ := pushStp C.own hm s e32
 have nLB : ¬ ownB A LB := fun ho => (C.alo _ ho).2.1 rfl
 have nlb : ¬ ownB A lb := fun ho => (C.alo _ ho).2.2 rfl
 have b33 := y3.bk p4 nLB C.blk
 have l33 := y3.bk p5 nlb C.lbx
 obtain ⟨h34, q1, q2, q3, q4⟩ := st_one (v := .slice A' (m + 1) K') b33 (o := 0 + i) (by simp; have := C.vl; omega) rfl
 have lo' : ∀ b, ownB A' b → h0.next ≤ b ∧ b ≠ LB ∧ b ≠ lb := fun b hb => (y5 b hb).elim (C.alo b) (fun h1 => by have := C.nw.next; omega)
 have same : ∀ b, b < h.next → ¬ ownB A b → b ≠ LB → h34.get b = h.get b := fun b hb h1 h2 => (q4 b h2).trans (y3.get b hb h1)
 refine ⟨A', K', h33, y1, ldC_of l33 rfl, h34, q1, ⟨⟨by have := C.nw.next; omega, fun b hb => (same b (by have := C.nw.next; omega) (fun ho => by have := (C.alo b ho).1; omega) (by omega)).trans (C.nw.get b hb)⟩, ?_, (q4 _ (Ne.symm p3)).trans l33, C.vl, fun j v hj => ?_, y2.keep (fun b hb _ => q4 b (lo' b hb).2.1) (by omega), fun b hb => ?_, lo', by omega⟩⟩
 ·have e : (vals ++ .slice A m K :: List.replicate (n - (i + 1)) nilS).set (0 + i) (.slice A' (m + 1) K') = vals ++ .slice A' (m + 1) K' :: List.replicate (n - (i + 1)) nilS := by
   rw [Nat.zero_add, List.set_append_right _ _ (by rw [C.vl.1]; exact Nat.le_refl _), C.vl.1, Nat.sub_self]
   rfl
  rwa [e] at q2
 ·obtain ⟨A1, n1, K1, h1, h2⟩ := C.old j v hj
  exact ⟨A1, n1, K1, h1, h2.keep (fun b hb hlt => same b hlt (C.dlo b hb).2.2.2.2 (C.dlo b hb).2.2.1) (by omega)⟩
 ·obtain ⟨d1, d2, d3, d4, d5⟩ := C.dlo b hb
  exact ⟨d1, by omega, d3, d4, fun ho => (y5 b ho).elim d5 (fun h => by omega)⟩
end
section
variable {h : AH} {Q : Value → AH → Prop} {Fa F Fo F1 F2 F3 : Nat → Prop} {g o : Nat} {N : NetD} {p : List (List Int)} {k c : Nat} {A1 A2 A3 : Option Addr} {n1 n2 n3 K1 K2 K3 : Nat} {costs : List Int}
theorem aByKids (G : GrA h Fa F g N) (O : OvA h Fo o N p) (hk : 2 ≤ k) (hkl : k ≤ p.length) (hc : c < most p k) (s1 : Sa cI F1 h A1 n1 K1 (ints (N.ins p k c))) (s2 : Sa cI F2 h A2 n2 K2 (ints (N.outs p k c))) (s3 : Sa cI F3 h A3 n3 K3 costs) (hlen : costs.length = N.size p) (hsz : N.size p ≤ 1000000) (hcb : ∀ x ∈ costs, 0 ≤ x)
  (hK : ∀ (ks : List Nat) (A' : Option Addr) (K' : Nat) (fb : Array Value) (h' : AH), KidsIn N p k c ks → NextOk h' 207 fb (N.LK p k ks ks.length).length (N.kSteps p k c ks costs) → Sa cI (fun b => h.next ≤ b) h' A' n1 K' (ints ((N.ins p k c).map fun a => (N.LK p k ks ks.length).idxOf a)) → Nw h h' →
   Q (.agg #[.int .i64 ((N.LK p k ks ks.length).length : Int), .slice A' n1 K', .func (.func 207) #[] fb]) h') :
  WC Tryz.prog 132 [.pointer (some ⟨g, 0, none⟩), .pointer (some ⟨o, 0, none⟩), .int .i64 k, .int .i64 c, .agg #[.slice A1 n1 K1, .slice A2 n2 K2], .slice A3 n3 K3] h Q := by
 have hna := G.few.2
 have hl1 : (N.ins p k c).length = n1 := by simpa [ints] using s1.len
 have hl2 : (N.outs p k c).length = n2 := by simpa [ints] using s2.len
 have hn1 : n1 ≤ 1000 := by rw [← hl1]; exact Nat.le_trans (takeN_len _ _) hna
 have hn2 : n2 ≤ 1000 := by rw [← hl2]; exact Nat.le_trans (takeN_len _ _) hna
 have hp6 := O.hp.few
 have hnv := O.hp.nv_
 have wk : IntKind.i64.wrap ((k : Int) - 1) = ((k - 1 : Nat) : Int) := by rw [Int.natCast_sub (by omega)]; exact wr_ok (by omega) (by omega)
 refine w_fill_byKids fun h1 e1 h2 e2 h3 e3 h4 e4 h5 e5 => ?_
 obtain ⟨k1, g1, z1⟩ := news e1
 obtain ⟨k2, g2, z2⟩ := news e2
 obtain ⟨k3, g3, z3⟩ := news e3
 obtain ⟨k4, g4, z4⟩ := news e4
 obtain ⟨k5, g5, z5⟩ := news e5
 have k03 := (k1.trans k2).trans k3
 have k35 := k4.trans k5
 have G3 := G.nw k03
 have O3 := O.nw k03
 have cb3 : Bk h3 h.next [.slice A1 n1 K1, .slice A2 n2 K2] 99 := (k2.trans k3).bk (by omega) g1
 have xb3 : Bk h3 h1.next [.slice A3 n3 K3] 36 := k3.bk (by omega) g2
 have s13 := s1.nw k03
 have s23 := s2.nw k03
 have s33 := s3.nw k03
 refine oKids (O3.nw k35) hk hkl hc fun A4 n4 K4 ks h6 s6 hKs k6 => ⟨_, _, _, rfl, ?_⟩
 have hn4 : ks.length = n4 := by simpa [ints] using s6.len
 subst hn4
 have hksn : ks.length ≤ N.nv := by
  have h1 := nodup_len (l := ks) (N := most p (k - 1)) (List.Pairwise.imp (fun h => Nat.ne_of_lt h) hKs.asc) (fun d hd => hKs.lt O.hp hk hkl hd)
  refine Nat.le_trans h1 ?_
  obtain ⟨row, hr⟩ : ∃ row, p[k - 1 - 1]? = some row := ⟨_, List.getElem?_eq_getElem (by omega)⟩
  have h2 := most_row hr
  have h3 := mostOf_le (row := row) (n := (N.nv : Int)) (by omega) (fun x hx => (O.hp.inr _ (List.mem_of_getElem? hr) x hx).2)
  omega
 have hnv1 := G.few.1
 have z6 := k6.next
 have LKl : ∀ {i}, i ≤ ks.length → (N.LK p k ks i).length ≤ 1000 := fun hi => Nat.le_trans (LK_len hKs.asc hi) hna
 refine ⟨fun m A5 n5 K5 x h7 => ∃ (i : Nat) (D : Nat → Prop), x = i ∧ n5 = i ∧ i ≤ ks.length ∧ m = ks.length - i ∧ KB h3 h6.next h3.next h4.next D A5 i K5 (gatesK N p k ks i) h7 (N.LK p k ks i) (N.spK p k ks i) ∧ Sa cI (fun b => h5.next ≤ b ∧ b < h6.next) h7 A4 ks.length K4 (ints ks), ks.length, ⟨0, fun _ => False, rfl, rfl, Nat.zero_le _, rfl, ⟨k35.trans k6, OwnP.nil _ _ _ _, ?_, ⟨none, 0, (k6.bk (by omega) g5), OwnP.nil _ _ _ _, fun b hb => hb.elim⟩, fun b hb => hb.elim, by omega, by omega⟩, s6.mono fun b hb hlt => ⟨hb, hlt⟩⟩, ?_⟩
 ·have e0 : pmF (N.LK p k ks 0) = fun _ => none := by funext x; simp [pmF, NetD.LK]
  rw [e0]
  exact (MapF.new g4).keep ((k5.trans k6).get _ (by omega))
 rintro m A5 n5 K5 x h7 ⟨i, D, rfl, rfl, hi, rfl, B7, sK⟩
 refine ⟨fun hlt => ?_, fun hge => ?_⟩
 ·have hik : n5 < ks.length := by omega
  obtain ⟨d, hd⟩ : ∃ d, ks[n5]? = some d := ⟨_, List.getElem?_eq_getElem hik⟩
  have hdD : (ks[n5]?).getD 0 = d := by rw [hd]; rfl
  have hdm := List.mem_of_getElem? hd
  have hdl := hKs.lt O.hp hk hkl hdm
  obtain ⟨b1, o1, x4, hA4, -, -, hx4, q4⟩ := sK.int (k := n5) hik
  have hxd : x4 = (d : Int) := by simp [ints, hd] at hx4; exact hx4.symm
  subst hxd
  refine ⟨n5, rfl, b1, o1, hA4, hik, _, q4, _, wk, oGate (O3.nw B7.nw) (by omega) (by omega) hdl fun A6 K6 A7 K7 h8 sA sB k8 => ⟨_, _, _, _, _, _, rfl, fun h9 e9 => ?_⟩⟩
  obtain ⟨ni, hni⟩ : ∃ ni, (N.ins p (k - 1) d).length = ni := ⟨_, rfl⟩
  obtain ⟨no, hno⟩ : ∃ no, (N.outs p (k - 1) d).length = no := ⟨_, rfl⟩
  rw [hni] at sA ⊢
  rw [hno] at sB ⊢
  have hni2 : ni ≤ 1000 := by rw [← hni]; exact Nat.le_trans (takeN_len _ _) hna
  obtain ⟨h10, s10, k10, g10, z10⟩ := box_st (vs := [.slice A6 ni K6, .slice A7 no K7]) e9 rfl (flat2 rfl rfl)
  refine ⟨h10, s10, _, _, _, _, _, _, ldN_bk g10 (by simp), fun h11 e11 => ?_⟩
  obtain ⟨k11, g11, z11⟩ := news e11
  have z8 := k8.next
  have B11 := B7.next ((k8.trans k10).trans k11)
  have hownD : ∀ b, ownB A5 b → D b := fun b hb => (B7.gates.lt hb).1
  have sA11 := ((sA.nw k10).nw k11)
  have sB11 := ((sB.nw k10).nw k11)
  have sAF : Sa cI (fun b => h7.next ≤ b ∧ b < h11.next) h11 A6 ni K6 (ints (N.ins p (k - 1) d)) := sA11.mono fun b hb hlt => ⟨hb, hlt⟩
  have sBF : Sa cI (fun b => h7.next ≤ b ∧ b < h11.next) h11 A7 no K7 (ints (N.outs p (k - 1) d)) := sB11.mono fun b hb hlt => ⟨hb, hlt⟩
  have hz : Sz Rc.gate (fun b => h7.next ≤ b ∧ b < h11.next) h11 (some ⟨h10.next, 0, none⟩) 1 2 [(ints (N.ins p (k - 1) d), ints (N.outs p (k - 1) d))] :=
   Sz.one g11 ⟨by omega, by omega⟩ (by omega) rfl ⟨A6, ni, K6, A7, no, K7, rfl, sAF, sBF⟩
  obtain ⟨A10, K10, h12, y1, y2, y3, y4⟩ := app_rows (r := Rc.gate) (bytes := 48) tyG B11.gates hz (fun b hb ho => by have := (B7.dlo b (hownD b ho)).2.1; omega) (by omega) (by omega)
  have z12 := y3.next
  have nO : ∀ {b}, h7.next ≤ b → ¬ ownB A5 b := fun hb ho => by have := (B7.dlo _ (hownD _ ho)).2.1; omega
  refine ⟨A10, n5 + 1, K10, h12, y1, _, _, _, ldC_of (y3.bk (by omega) (nO (by omega)) (k11.bk (by omega) g10)) rfl, ?_⟩
  obtain ⟨A12, K12, t1, t2, t3⟩ := B11.spt
  obtain ⟨p1, p2, p3, p4, p5⟩ := B11.pos
  have B12 : KB h3 h6.next h3.next h4.next (fun b => (D b ∨ (h7.next ≤ b ∧ b < h11.next) ∨ b = h11.next) ∧ b < h12.next) A10 (n5 + 1) K10 (gatesK N p k ks (n5 + 1)) h12 (N.LK p k ks n5) (N.spK p k ks n5) := by
   have lo7 := B7.hlo
   refine ⟨⟨by have := B11.nw.next; omega, fun b hb => (y3.get b (by have := B11.nw.next; omega) (fun ho => by have := (B7.dlo b (hownD b ho)).1; omega)).trans (B11.nw.get b hb)⟩, ?_, B11.map_.keep (y3.get _ p4 (fun ho => (B7.dlo _ (hownD _ ho)).2.2.1 rfl)), ⟨A12, K12, y3.bk p5 (fun ho => (B7.dlo _ (hownD _ ho)).2.2.2 rfl) t1, t2.keep (fun b hb hlt => y3.get b hlt (fun ho => (t3 b hb).2.2.2 (hownD b ho))) (by omega), fun b hb => ?_⟩, fun b hb => ?_, by omega, by omega⟩
   ·rw [gatesK_succ, hdD]
    exact y2.mono fun b hb hlt => ⟨hb, hlt⟩
   ·have hb7 : b < h7.next := by
     obtain ⟨A12', K12', t1', t2', t3'⟩ := B7.spt
     have : ldC h11 h4.next 0 = some (.slice A12' (N.LK p k ks n5).length K12') := ldC_of (((k8.trans k10).trans k11).bk (by have := B7.pos; omega) t1') rfl
     rw [ldC_of t1 rfl] at this
     injection this with this
     injection this with e1 e2 e3
     subst e1
     exact t2'.own hb
    refine ⟨(t3 b hb).1, (t3 b hb).2.1, (t3 b hb).2.2.1, fun hd => ?_⟩
    rcases hd.1 with h9 | h9 | h9
    ·exact (t3 b hb).2.2.2 h9
    ·omega
    ·omega
   ·have hpos := B7.pos
    rcases hb.1 with h9 | h9 | h9
    ·have := B7.dlo b h9; omega
    ·omega
    ·omega
  have sA12 : Sa cI (fun b => h7.next ≤ b ∧ b < h11.next) h12 A6 ni K6 (ints (N.ins p (k - 1) d)) := sAF.off y3 fun b hb => nO hb.1
  have sK12 : Sa cI (fun b => h5.next ≤ b ∧ b < h6.next) h12 A4 ks.length K4 (ints ks) := ((sK.nw (k8.trans k10)).nw k11).off y3 fun b hb ho => by have := (B7.dlo b (hownD b ho)).1; omega
  have hLn5 := LKl hi
  refine ⟨fun m x h13 => ∃ j : Nat, x = j ∧ j ≤ ni ∧ m = ni - j ∧ KB h3 h6.next h3.next h4.next (fun b => (D b ∨ (h7.next ≤ b ∧ b < h11.next) ∨ b = h11.next) ∧ b < h12.next) A10 (n5 + 1) K10 (gatesK N p k ks (n5 + 1)) h13 (N.LK p k ks n5 ++ (N.ins p (k - 1) d).take j) (N.spK p k ks n5 ++ (List.range j).map fun j => (N.firstK p k d j, (n5 : Int))) ∧ Sa cI (fun b => h7.next ≤ b ∧ b < h11.next) h13 A6 ni K6 (ints (N.ins p (k - 1) d)) ∧ Sa cI (fun b => h5.next ≤ b ∧ b < h6.next) h13 A4 ks.length K4 (ints ks), ni, ⟨0, rfl, Nat.zero_le _, rfl, by simpa using B12, sA12, sK12⟩, ?_⟩
  rintro m x h13 ⟨j, rfl, hj, rfl, B13, sA13, sK13⟩
  refine ⟨fun hlt => ?_, fun hge => ?_⟩
  ·have hjn : j < ni := by omega
   obtain ⟨b2, o2, x7, hA6, -, -, hx7, r0⟩ := sA13.int (k := j) hjn
   obtain ⟨a, ha⟩ : ∃ a, (N.ins p (k - 1) d)[j]? = some a := ⟨_, List.getElem?_eq_getElem (by omega)⟩
   have hxa : x7 = (a : Int) := by simp [ints, ha] at hx7; exact hx7.symm
   subst hxa
   have hfr : a ∉ N.LK p k ks n5 ++ (N.ins p (k - 1) d).take j := by
    have := fresh_LK (N := N) (p := p) (k := k) (ks := ks) hKs.asc (n := n5) (j := j) (a := a) hik (by rw [hdD]; exact ha)
    rwa [hdD] at this
   have hLl : (N.LK p k ks n5 ++ (N.ins p (k - 1) d).take j).length ≤ 2000 := by rw [List.length_append, List.length_take]; omega
   obtain ⟨A12', K12', u1, u2, h14, u3, u4, u5, u6, u7⟩ := B13.push hfr hLl
   obtain ⟨P1, P2, P3, P4, P5⟩ := B13.pos
   have nw14 : Nw h3 h14 := ⟨by have := B13.nw.next; omega, fun b hb => (u6 b (by omega)).trans (B13.nw.get b hb)⟩
   have w1 : IntKind.i64.wrap ((j : Int) + 1) = ((j + 1 : Nat) : Int) := by rw [Int.natCast_succ]; exact wr_ok (by omega) (by omega)
   refine ⟨j, rfl, b2, o2, hA6, hjn, _, r0, _, _, _, u1, h14, u3, _, _, _, u4, _, wk, oAt0 (O3.nw nw14) hk hkl hdl (by omega) fun h15 k15 => ⟨_, rfl, ?_⟩⟩
   obtain ⟨v1, v2⟩ := u7 h15 (N.firstK p k d j) (n5 : Int) k15
   refine ⟨v1, u2, fun h16 e16 => ?_⟩
   obtain ⟨A14, K14, h17, w2, h18, w3, B18, w4, w5⟩ := v2 h16 e16
   refine ⟨A14, _, K14, h17, w2, h18, w3, _, w1, ni - (j + 1), by omega, j + 1, by omega, by omega, rfl, ?_, sA13.keep (fun b hb hlt => w5 b hlt (by have := B7.pos; omega) (by have := B7.pos; omega) (.inr ⟨.inr (.inl hb), by omega⟩)) w4, sK13.keep (fun b hb hlt => w5 b hlt (by omega) (by omega) (.inl (by omega))) w4⟩
   have e1 : N.LK p k ks n5 ++ (N.ins p (k - 1) d).take (j + 1) = N.LK p k ks n5 ++ (N.ins p (k - 1) d).take j ++ [a] := by rw [List.take_add_one, ha, List.append_assoc]; rfl
   have e2 : (N.spK p k ks n5 ++ (List.range (j + 1)).map fun j => (N.firstK p k d j, (n5 : Int))) = (N.spK p k ks n5 ++ (List.range j).map fun j => (N.firstK p k d j, (n5 : Int))) ++ [(N.firstK p k d j, (n5 : Int))] := by rw [List.range_succ, List.map_append, List.append_assoc]; rfl
   rw [e1, e2]
   exact B18
  ·obtain rfl : j = ni := by omega
   have w1 : IntKind.i64.wrap ((n5 : Int) + 1) = ((n5 + 1 : Nat) : Int) := by rw [Int.natCast_succ]; exact wr_ok (by omega) (by omega)
   refine ⟨_, w1, ks.length - (n5 + 1), by omega, n5 + 1, fun b => (D b ∨ (h7.next ≤ b ∧ b < h11.next) ∨ b = h11.next) ∧ b < h12.next, rfl, rfl, by omega, rfl, ?_, sK13⟩
   rw [List.take_of_length_le (by omega)] at B13
   have e1 : N.LK p k ks (n5 + 1) = N.LK p k ks n5 ++ N.ins p (k - 1) d := by rw [NetD.LK, hdD]
   have e2 : N.spK p k ks (n5 + 1) = N.spK p k ks n5 ++ (List.range j).map fun j => (N.firstK p k d j, (n5 : Int)) := by rw [NetD.spK, hdD, hni]
   rw [e1, e2]
   exact B13
 ·obtain rfl : n5 = ks.length := by omega
  obtain ⟨L, hL⟩ : ∃ L, N.LK p k ks ks.length = L := ⟨_, rfl⟩
  have hLl : L.length ≤ 1000 := by rw [← hL]; exact LKl (Nat.le_refl _)
  obtain ⟨P1, P2, P3, P4, P5⟩ := B7.pos
  have cb7 := B7.nw.bk (by omega) cb3
  have G7 := G3.nw B7.nw
  have s27 := s23.nw B7.nw
  have m7 := B7.map_
  rw [hL] at m7
  have sG7 : Sa Rc.gate D h7 A5 ks.length K5 (gatesK N p k ks ks.length) := B7.gates.sa
  refine ⟨by omega, fun h19 e19 h20 e20 => ?_⟩
  obtain ⟨k19, g19, z19⟩ := news e19
  rw [rep_one] at g19
  obtain ⟨h21, s21, k21, g21, z21⟩ := box_st (vs := [.slice (some ⟨h7.next, 0, none⟩) ks.length (cx ks.length)]) e20 rfl (by simp [flat])
  refine ⟨h21, s21, fun m x h22 => ∃ (i : Nat) (vals : List Value) (D2 : Nat → Prop), x = i ∧ i ≤ ks.length ∧ m = ks.length - i ∧ Nw h7 h22 ∧ Bk h22 h7.next (vals ++ List.replicate (ks.length - i) nilS) 351 ∧ Bk h22 h19.next [.slice (some ⟨h7.next, 0, none⟩) ks.length (cx ks.length)] 350 ∧ vals.length = i ∧ (∀ j v, vals[j]? = some v → ∃ A n K, v = .slice A n K ∧ Sa cTri D2 h22 A n K (N.kList p k c ks j)) ∧ (∀ b, D2 b → h7.next ≤ b ∧ b < h22.next ∧ b ≠ h7.next ∧ b ≠ h19.next) ∧ h19.next < h22.next, ks.length, ⟨0, [], fun _ => False, rfl, Nat.zero_le _, rfl, k19.trans k21, k21.bk (by omega) g19, g21, rfl, by simp, fun b hb => hb.elim, by omega⟩, ?_⟩
  rintro m x h22 ⟨i, vals, D2, rfl, hi, rfl, k22, b22, l22, hvl, hold, hD2, hl22⟩
  refine ⟨fun hlt => ?_, fun hge => ?_⟩
  ·have hik : i < ks.length := by omega
   obtain ⟨d, hd⟩ : ∃ d, ks[i]? = some d := ⟨_, List.getElem?_eq_getElem hik⟩
   have hdD : (ks[i]?).getD 0 = d := by rw [hd]; rfl
   have hdm := List.mem_of_getElem? hd
   have hkl1 : N.kList p k c ks i = (N.outs p (k - 1) d).map (N.kStep p k c L) := by unfold NetD.kList; rw [hdD, hL]
   obtain ⟨b3, o3, A15, n15, K15, A16, n16, K16, gx, gy, hA5, -, -, hgx, q1, q2, s15, s16⟩ := (sG7.nw k22).gate (k := i) hik
   have hgy : gx = ints (N.ins p (k - 1) d) ∧ gy = ints (N.outs p (k - 1) d) := by
    unfold gatesK at hgx
    rw [List.getElem?_map, List.getElem?_range hik] at hgx
    simp only [Option.map_some, hdD] at hgx
    injection hgx with hgx
    injection hgx with h1 h2
    exact ⟨h1.symm, h2.symm⟩
   obtain ⟨rfl, rfl⟩ := hgy
   have hn16 : (N.outs p (k - 1) d).length = n16 := by simpa [ints] using s16.len
   have hn16b : n16 ≤ 1000 := by rw [← hn16]; exact Nat.le_trans (takeN_len _ _) hna
   refine ⟨i, rfl, b3, o3, hA5, hik, _, _, _, _, _, _, ldN2 q1 q2, fun h23 e23 => ?_⟩
   obtain ⟨h24, s24, k24, g24, z24⟩ := box_st (vs := [.slice A15 n15 K15, .slice A16 n16 K16]) e23 rfl (flat2 rfl rfl)
   have hz22 := k22.next
   have C24 : KC h7 h7.next h19.next ks.length i (N.kList p k c ks) h24 vals D2 none 0 0 [] := by
    refine ⟨k22.trans k24, ?_, k24.bk hl22 l22, ⟨hvl, hik⟩, fun j v hj => ?_, OwnP.nil _ _ _ _, fun b hb => ?_, fun b hb => hb.elim, by omega⟩
    ·have := k24.bk (by omega) b22
     rw [show ks.length - i = (ks.length - (i + 1)) + 1 by omega, List.replicate_succ] at this
     exact this
    ·obtain ⟨A', n', K', h1, h2⟩ := hold j v hj
     exact ⟨A', n', K', h1, h2.nw k24⟩
    ·have := hD2 b hb
     exact ⟨this.1, by omega, this.2.2.1, this.2.2.2, id⟩
   refine ⟨h24, s24, _, _, _, ldC_of g24 rfl, fun m x h25 => ∃ (j : Nat) (A : Option Addr) (mm K : Nat), x = j ∧ j ≤ n16 ∧ m = n16 - j ∧ KC h7 h7.next h19.next ks.length i (N.kList p k c ks) h25 vals D2 A mm K (((N.outs p (k - 1) d).take j).map (N.kStep p k c L)) ∧ mm = j ∧ Nw h7 h25, n16, ⟨0, none, 0, 0, rfl, Nat.zero_le _, rfl, by simpa using C24, rfl, C24.nw⟩, ?_⟩
   rintro m x h25 ⟨j, A, mm, K, rfl, hj, rfl, C25, rfl, k25⟩
   have w1 : IntKind.i64.wrap ((mm : Int) + 1) = ((mm + 1 : Nat) : Int) := by rw [Int.natCast_succ]; exact wr_ok (by omega) (by omega)
   refine ⟨fun hlt => ?_, fun hge => ?_⟩
   ·have hjn : mm < n16 := by omega
    have s16' : Sa cI D h25 A16 n16 K16 (ints (N.outs p (k - 1) d)) := by
     obtain ⟨b3', o3', A15', n15', K15', A16', n16', K16', gx', gy', hA5', -, -, hgx', q1', q2', s15', s16'⟩ := (sG7.nw k25).gate (k := i) hik
     obtain ⟨b7, o7, A157, n157, K157, A167, n167, K167, gx7, gy7, hA57, -, hb7, hgx7, q17, q27, s157, s167⟩ := sG7.gate (k := i) hik
     have e1 : gy7 = ints (N.outs p (k - 1) d) := by
      unfold gatesK at hgx7
      rw [List.getElem?_map, List.getElem?_range hik] at hgx7
      simp only [Option.map_some, hdD] at hgx7
      injection hgx7 with hgx7
      injection hgx7 with h1 h2
      exact h2.symm
     subst e1
     rw [hA5] at hA57
     injection hA57 with hA57
     injection hA57 with e2 e3
     subst e2 e3
     have e4 := (k22.ldC hb7 _).trans q27
     rw [q2] at e4
     injection e4 with e4
     injection e4 with e5 e6 e7
     subst e5 e6 e7
     exact s167.nw k25
    obtain ⟨b4, o4, x14, hA16, -, -, hx14, r0⟩ := s16'.int (k := mm) hjn
    obtain ⟨mv, hmv⟩ : ∃ mv, (N.outs p (k - 1) d)[mm]? = some mv := ⟨_, List.getElem?_eq_getElem (by omega)⟩
    have hxm : x14 = (mv : Int) := by simp [ints, hmv] at hx14; exact hx14.symm
    subst hxm
    have hmvm := List.mem_of_getElem? hmv
    have hmvn := (NetD.mem_outs.1 hmvm).1
    have htake : ((N.outs p (k - 1) d).take (mm + 1)).map (N.kStep p k c L) = ((N.outs p (k - 1) d).take mm).map (N.kStep p k c L) ++ [N.kStep p k c L mv] := by
     rw [List.take_add_one, hmv, List.map_append]; rfl
    refine ⟨mm, rfl, b4, o4, hA16, hjn, _, r0, _, _, _, ldC_of (k25.bk (by omega) cb7) rfl, aPlace mv (s27.nw k25) (takeN_asc _ _) (by omega) ⟨_, rfl, fun h27 e27 => ?_⟩⟩
    obtain ⟨h28, s28, k28, g28, z28⟩ := box_st (vs := [.int .i64 0, .int .i64 (placeI (N.outs p k c) mv), .int .i64 0]) e27 rfl (flat3 rfl rfl rfl)
    have fin : ∀ (h31 : AH) (s : Stp), Nw h25 h31 → s = N.kStep p k c L mv → Bk h31 h25.next [.int .i64 s.1, .int .i64 s.2.1, .int .i64 s.2.2] 353 →
      ∃ (A19 : Option Addr) (n19 : Nat) (K19 : Nat), ldC h31 h19.next 0 = some (.slice A19 n19 K19) ∧ ∃ (A20 : Option Addr) (n20 : Nat) (K20 : Nat), ldC h31 h19.next 0 = some (.slice A20 n20 K20) ∧ ∃ (b_5 o_5 : Nat), A20 = some ⟨b_5, o_5, none⟩ ∧ i < n20 ∧ ∃ (A21 : Option Addr) (n21 : Nat) (K21 : Nat), ldC h31 b_5 (o_5 + i) = some (.slice A21 n21 K21) ∧ ∃ (x19 : Int) (x20 : Int) (x21 : Int), ldN h31 h25.next 0 3 = some [.int .i64 x19, .int .i64 x20, .int .i64 x21] ∧
      ∀ h32 : AH, h32 = AH.new h31 (.cells [.int .i64 x19, .int .i64 x20, .int .i64 x21] 353 false) → ∃ (A22 : Option Addr) (n22 : Nat) (K22 : Nat) (h33 : AH), lAppend Tryz.prog h32 (some (.slice 353)) (some (.slice 353)) (.slice A21 n21 K21) (.slice (some ⟨h31.next, 0, none⟩) 1 2) = some (.slice A22 n22 K22, h33) ∧ ldC h33 h19.next 0 = some (.slice A19 n19 K19) ∧ EqOk (.slice A19 n19 K19) ∧ ∃ (b_6 o_6 : Nat), A19 = some ⟨b_6, o_6, none⟩ ∧ i < n19 ∧ ∃ h34 : AH, stC h33 b_6 (o_6 + i) [.slice A22 n22 K22] = some h34 ∧
      ∃ x22 : Int, IntKind.i64.wrap ((mm : Int) + 1) = x22 ∧ ∃ m' : Nat, m' < n16 - mm ∧ ∃ (j : Nat) (A : Option Addr) (mm K : Nat), x22 = j ∧ j ≤ n16 ∧ m' = n16 - j ∧ KC h7 h7.next h19.next ks.length i (N.kList p k c ks) h34 vals D2 A mm K (((N.outs p (k - 1) d).take j).map (N.kStep p k c L)) ∧ mm = j ∧ Nw h7 h34 := by
     intro h31 s k31 hs gs
     have C31 := C25.next k31
     obtain ⟨Q1, Q2, Q3, Q4, Q5⟩ := C31.pos
     refine ⟨_, _, _, ldC_of C31.lbx rfl, _, _, _, ldC_of C31.lbx rfl, _, _, rfl, hik, _, _, _, C31.cell, _, _, _, ldN_bk gs (by simp), fun h32 e32 => ?_⟩
     obtain ⟨A', K', h33, y1, y2, h34, y3, C34⟩ := C31.push (by omega) s h32 e32
     refine ⟨A', mm + 1, K', h33, y1, y2, rfl, _, _, rfl, hik, h34, y3, _, w1, n16 - (mm + 1), by omega, mm + 1, A', mm + 1, K', rfl, by omega, rfl, ?_, rfl, C34.nw⟩
     rw [htake, ← hs]
     exact C34
    refine ⟨h28, s28, _, ldC_of g28 rfl, fun hneg => ?_, fun hpos => ?_⟩
    ·have hout : mv ∉ N.outs p k c := fun hm => by have := placeI_nn.2 hm; omega
     have hpl : placeI (N.outs p k c) mv = -1 := by unfold placeI; rw [if_neg hout]
     have hmL : mv ∈ L := by rw [← hL]; exact kid_next hKs O.ok O.hp hk hkl hdm hmvm hout
     have hst : N.kStep p k c L mv = (((L.idxOf mv : Nat) : Int), -1, N.w mv) := by unfold NetD.kStep; rw [if_neg hout, if_pos hmL]
     have wb := NetD.w_bd G.ok mv
     rw [hpl] at g28
     refine ⟨_, _, mapLook (m7.keep ((k25.trans k28).get _ (by omega))) mv, fun _ => ?_, fun hf => absurd hmL (of_decide_eq_false hf)⟩
     rw [if_pos hmL]
     refine aWeight ((G7.nw k25).nw k28) hmvn ⟨_, rfl, ?_⟩
     obtain ⟨h30, s30, b30, z30, q30⟩ := st_one (v := .int .i64 ((L.idxOf mv : Nat) : Int)) g28 (o := 0) (by simp) rfl
     obtain ⟨h31, s31, b31, z31, q31⟩ := st_one (v := .int .i64 (N.w mv)) b30 (o := 2) (by simp) rfl
     have k31 : Nw h25 h31 := ⟨by omega, fun b hb => (q31 b (by omega)).trans ((q30 b (by omega)).trans (k28.get b hb))⟩
     exact ⟨h30, s30, h31, s31, fin h31 (((L.idxOf mv : Nat) : Int), -1, N.w mv) k31 hst.symm b31⟩
    ·have hout : mv ∈ N.outs p k c := placeI_nn.1 (by omega)
     have hpl : placeI (N.outs p k c) mv = (((N.outs p k c).idxOf mv : Nat) : Int) := by unfold placeI; rw [if_pos hout]
     have hst : N.kStep p k c L mv = (0, (((N.outs p k c).idxOf mv : Nat) : Int), 0) := by unfold NetD.kStep; rw [if_pos hout]
     rw [hpl] at g28
     exact fin h28 (0, (((N.outs p k c).idxOf mv : Nat) : Int), 0) k28 hst.symm g28
   ·obtain rfl : mm = n16 := by omega
    have hC := C25.own
    rw [List.take_of_length_le (by omega)] at hC
    obtain ⟨Q1, Q2, Q3, Q4, Q5⟩ := C25.pos
    have wi : IntKind.i64.wrap ((i : Int) + 1) = ((i + 1 : Nat) : Int) := by rw [Int.natCast_succ]; exact wr_ok (by omega) (by omega)
    refine ⟨_, wi, ks.length - (i + 1), by omega, i + 1, vals ++ [.slice A mm K], fun b => D2 b ∨ ownB A b, rfl, by omega, rfl, k25, ?_, C25.lbx, by simp [hvl], fun q v hq => ?_, fun b hb => ?_, Q5⟩
    ·have := C25.blk
     rwa [List.append_cons] at this
    ·rw [List.getElem?_append] at hq
     split at hq
     ·obtain ⟨A', n', K', h1, h2⟩ := C25.old q v hq
      exact ⟨A', n', K', h1, h2.mono fun b hb _ => .inl hb⟩
     ·rename_i hge2
      have hq0 : q = vals.length := by
       have := (List.getElem?_eq_some_iff.1 hq).1
       simp at this
       omega
      subst hq0
      simp at hq
      subst hq
      refine ⟨A, mm, K, rfl, ?_⟩
      rw [hvl, hkl1]
      exact hC.sa.mono fun b hb _ => .inr hb
    ·rcases hb with hb | hb
     ·have := C25.dlo b hb; exact ⟨this.1, this.2.1, this.2.2.1, this.2.2.2.1⟩
     ·have := C25.alo b hb; exact ⟨this.1, hC.own hb, this.2.1, this.2.2⟩
  ·obtain rfl : i = ks.length := by omega
   rw [Nat.sub_self, List.replicate_zero, List.append_nil] at b22
   obtain ⟨A12, K12, t1, t2, t3⟩ := B7.spt
   rw [hL] at t1 t2
   have z22 := k22.next
   refine ⟨_, _, _, ldC_of (k22.bk P5 t1) rfl, fun h45 e45 => ?_⟩
   obtain ⟨h46, s46, k46, g46, z46⟩ := box_st (vs := [.int .i64 L.length, .slice none 0 0, .nilFunc]) e45 rfl (flat3 rfl rfl rfl)
   have k746 := k22.trans k46
   have m46 := m7.keep (k746.get _ P4)
   refine ⟨h46, s46, _, _, _, ldC_of (k746.bk (by omega) cb7) rfl, fun m x h47 => ∃ (q : Nat) (A17 : Option Addr) (K17 : Nat), x = q ∧ q ≤ n1 ∧ m = n1 - q ∧ Bk h47 h22.next [.int .i64 L.length, .slice A17 q K17, .nilFunc] 259 ∧ OwnP cI h47 (ownB A17) 3 A17 q K17 (ints (((N.ins p k c).take q).map fun a => L.idxOf a)) ∧ (∀ b, ownB A17 b → h46.next ≤ b) ∧ h46.next ≤ h47.next ∧ (∀ b, b < h46.next → b ≠ h22.next → h47.get b = h46.get b), n1, ⟨0, none, 0, rfl, Nat.zero_le _, rfl, g46, OwnP.nil _ _ _ _, fun b hb => hb.elim, Nat.le_refl _, fun _ _ _ => rfl⟩, ?_⟩
   rintro m x h47 ⟨q, A17, K17, rfl, hq, rfl, b47, o47, lo47, hz47, q47⟩
   refine ⟨fun hlt => ?_, fun hge => ?_⟩
   ·have hqn : q < n1 := by omega
    have s1' : Sa cI F1 h3 A1 n1 K1 (ints (N.ins p k c)) := s13
    obtain ⟨b5, o5, x34, hA1, -, hb5, hx34, r5⟩ := s13.int (k := q) hqn
    obtain ⟨e, he⟩ : ∃ e, (N.ins p k c)[q]? = some e := ⟨_, List.getElem?_eq_getElem (by omega)⟩
    have hxe : x34 = (e : Int) := by simp [ints, he] at hx34; exact hx34.symm
    subst hxe
    have heL : e ∈ L := by rw [← hL]; exact (hKs.in_kid O.ok O.hp hk hkl).2 (ins_nest O.ok O.hp hk hkl (List.mem_of_getElem? he))
    have same3 : ∀ b, b < h3.next → h47.get b = h3.get b := fun b hb => (q47 b (by omega) (by omega)).trans ((k746.get b (by omega)).trans (B7.nw.get b hb))
    have m47 := m46.keep (q47 _ (by omega) (by omega))
    have hlk := mapLook1 m47 e
    rw [if_pos heL] at hlk
    refine ⟨q, rfl, b5, o5, hA1, hqn, _, (ldC_congr (same3 b5 hb5) _).trans r5, _, _, _, ldC_of b47 rfl, _, hlk, fun h48 e48 => ?_⟩
    obtain ⟨k48, g48, z48⟩ := news e48
    have hz : Sz cI (fun z => z = h47.next) h48 (some ⟨h47.next, 0, none⟩) 1 2 [((L.idxOf e : Nat) : Int)] := Sz.one g48 rfl (by omega) rfl rfl
    obtain ⟨A18, K18, h49, y1, y2, y3, y4⟩ := app_row (free_int _) (r := cI) tyI8 (o47.nw k48) hz (by omega) (by omega)
    have z49 := y3.next
    have b49 := y3.bk (b := h22.next) (by omega) (fun ho => by have := lo47 _ ho; omega) (k48.bk (by omega) b47)
    obtain ⟨h50, s50, b50, z50, o50⟩ := st_one (v := .slice A18 (q + 1) K18) b49 (o := 1) (by simp) rfl
    have lo18 : ∀ z, ownB A18 z → h46.next ≤ z := fun z hz => (y4 z hz).elim (lo47 z) (fun h => by omega)
    refine ⟨A18, q + 1, K18, h49, y1, h50, s50, _, wr_ok (by omega) (by omega), n1 - (q + 1), by omega, q + 1, A18, K18, by omega, by omega, rfl, b50, ?_, lo18, by omega, fun z hz hne => (o50 z hne).trans ((y3.get z (by omega) (fun ho => by have := lo47 _ ho; omega)).trans ((k48.get z (by omega)).trans (q47 z hz hne)))⟩
    have : ints (((N.ins p k c).take (q + 1)).map fun a => L.idxOf a) = ints (((N.ins p k c).take q).map fun a => L.idxOf a) ++ [((L.idxOf e : Nat) : Int)] := by
     rw [List.take_add_one, he]; simp [ints]
    rw [this]
    exact y2.keep (fun z hz _ => o50 z (by have := lo18 z hz; omega)) (by omega)
   ·obtain rfl : q = n1 := by omega
    rw [List.take_of_length_le (by omega)] at o47
    obtain ⟨h51, s51, b51, z51, o51⟩ := st_one (v := .func (.func 207) #[] #[.pointer (some ⟨h4.next, 0, none⟩), .pointer (some ⟨h19.next, 0, none⟩), .pointer (some ⟨h1.next, 0, none⟩)]) b47 (o := 2) (by simp) rfl
    have f51 : Bk h51 h2.next [.int .i64 0, .slice none 0 0, .nilFunc] 259 := (o51 _ (by omega)).trans ((q47 _ (by omega) (by omega)).trans (k746.bk (by omega) (B7.nw.bk (by omega) g3)))
    obtain ⟨h52, s52, b52, z52, o52⟩ := st_all (vs := [.int .i64 L.length, .slice A17 q K17, .func (.func 207) #[] #[.pointer (some ⟨h4.next, 0, none⟩), .pointer (some ⟨h19.next, 0, none⟩), .pointer (some ⟨h1.next, 0, none⟩)]]) f51 rfl (flat3 rfl rfl rfl)
    have same : ∀ z, z < h46.next → z ≠ h22.next → z ≠ h2.next → h52.get z = h46.get z := fun z hz h1 h2 => (o52 z h2).trans ((o51 z h1).trans (q47 z hz h1))
    have same7 : ∀ z, z < h7.next → z ≠ h2.next → h52.get z = h7.get z := fun z hz h2 => (same z (by omega) (by omega) h2).trans (k746.get z hz)
    have same22 : ∀ z, z < h22.next → z ≠ h2.next → h52.get z = h22.get z := fun z hz h2 => (same z (by omega) (by omega) h2).trans (k46.get z hz)
    have same3 : ∀ z, z < h3.next → z ≠ h2.next → h52.get z = h3.get z := fun z hz h2 => (same7 z (by omega) h2).trans (B7.nw.get z hz)
    refine ⟨h51, s51, _, _, _, _, _, _, ldN_bk b51 (by simp), h52, s52, _, _, _, _, _, _, ldN_bk b52 (by simp), ?_⟩
    have hnw : Nw h h52 := ⟨by omega, fun z hz => (same3 z (by omega) (by omega)).trans (k03.get z hz)⟩
    have hA17 : Sa cI (fun b => h.next ≤ b) h52 A17 q K17 (ints ((N.ins p k c).map fun a => L.idxOf a)) := ((o47.keep (fun z hz _ => (o52 z (by have := lo47 z hz; omega)).trans (o51 z (by have := lo47 z hz; omega))) (by omega)).sa).mono fun z hz _ => by have := lo47 z hz; omega
    have lohi := B7.hlo
    have hspb : ldC h52 h4.next 0 = some (.slice A12 L.length K12) := ldC_of ((same7 _ P5 (by omega)).trans t1) rfl
    have hsps : Sa cPr (ownB A12) h52 A12 L.length K12 (N.spK p k ks ks.length) := t2.sa.keep (fun z hz hlt => same7 z hlt (by have := (t3 z hz).1; omega)) (by omega)
    have hlb : ldC h52 h19.next 0 = some (.slice (some ⟨h7.next, 0, none⟩) ks.length (cx ks.length)) := ldC_of ((same22 _ hl22 (by omega)).trans l22) rfl
    have hvb : Bk h52 h7.next vals 351 := (same22 _ (by omega) (by omega)).trans b22
    have hls : Sa (Rc.slice cTri) (fun b => D2 b ∨ b = h7.next) h52 (some ⟨h7.next, 0, none⟩) ks.length (cx ks.length) ((List.range ks.length).map (N.kList p k c ks)) :=
     Sa.of_bk hvb (by simp) (.inr rfl) (by omega) fun j r hj => by
      rw [List.getElem?_map] at hj
      by_cases hjl : j < ks.length
      ·rw [List.getElem?_range hjl] at hj
       simp only [Option.map_some, Option.some.injEq] at hj
       subst hj
       obtain ⟨v, hv⟩ : ∃ v, vals[j]? = some v := ⟨_, List.getElem?_eq_getElem (by omega)⟩
       obtain ⟨A', n', K', rfl, h2⟩ := hold j v hv
       refine ⟨A', n', K', ?_, (h2.keep (fun z hz hlt => same22 z hlt (by have := (hD2 z hz).1; omega)) (by omega)).mono fun b hb _ => .inl hb⟩
       show (vals.drop (j * 1)).take 1 = _
       rw [Nat.mul_one]
       exact take_one' hv
      ·rw [List.getElem?_eq_none (by simpa using hjl)] at hj
       cases hj
    have hcb' : ldC h52 h1.next 0 = some (.slice A3 n3 K3) := ldC_of ((same3 _ (by omega) (by omega)).trans xb3) rfl
    have hcs : Sa cI (fun b => F3 b ∧ b < h.next) h52 A3 n3 K3 costs := ((s3.mono (G := fun b => F3 b ∧ b < h.next) fun b hb hlt => ⟨hb, hlt⟩).nw hnw)
    have hn3 := s3.len
    have hx := nextKids (h0 := h52) ⟨by omega, by omega, by omega⟩ hspb hsps hlb hls hcb' hcs (by omega) (fun x hx => ?_) hcb (fun r hr s hs => ?_)
    ·have hfun : (fun q => match (N.spK p k ks ks.length)[q]? with | some x => toldK costs x.1.toNat ((((List.range ks.length).map (N.kList p k c ks))[x.2.toNat]?).getD []) | none => []) = N.kSteps p k c ks costs := by
      funext q'
      unfold NetD.kSteps
      cases hq' : (N.spK p k ks ks.length)[q']? with
      | none => rfl
      | some x =>
       obtain ⟨a, ha⟩ : ∃ a, (N.LK p k ks ks.length)[q']? = some a := ⟨_, List.getElem?_eq_getElem (by rw [← spK_len]; exact (List.getElem?_eq_some_iff.1 hq').1)⟩
       obtain ⟨i', j', d', h1', h2', h3', h4'⟩ := at_LK ks.length (Nat.le_refl _) ha
       rw [hq'] at h4'
       injection h4' with h4'
       subst h4'
       simp [h1']
     have hx2 := (congrArg (fun f => NextOk h52 207 #[.pointer (some ⟨h4.next, 0, none⟩), .pointer (some ⟨h19.next, 0, none⟩), .pointer (some ⟨h1.next, 0, none⟩)] L.length f) hfun).mp hx
     have hKK := hK ks A17 K17 _ h52 hKs (by rw [hL]; exact hx2) (by rw [hL]; exact hA17) hnw
     rw [hL] at hKK
     exact hKK
    ·obtain ⟨q', hq'⟩ := List.getElem?_of_mem hx
     obtain ⟨a, ha⟩ : ∃ a, (N.LK p k ks ks.length)[q']? = some a := ⟨_, List.getElem?_eq_getElem (by rw [← spK_len]; exact (List.getElem?_eq_some_iff.1 hq').1)⟩
     obtain ⟨i', j', d', h1', h2', h3', h4'⟩ := at_LK ks.length (Nat.le_refl _) ha
     rw [hq'] at h4'
     injection h4' with h4'
     subst h4'
     have hd'm := List.mem_of_getElem? h2'
     have hd'l := hKs.lt O.hp hk hkl hd'm
     have hse := NetD.start_end (N := N) (p := p) (k := k - 1) (by omega) (by omega) hd'l
     have hj' := (List.getElem?_eq_some_iff.1 h3').1
     have hkl' : (N.kList p k c ks i').length = (N.outs p (k - 1) d').length := by unfold NetD.kList; rw [h2']; simp
     refine ⟨i', N.kList p k c ks i', rfl, by simp [h1'], by rw [hkl']; exact Nat.le_trans (takeN_len _ _) (by omega), ?_⟩
     by_cases he : N.outs p (k - 1) d' = []
     ·left
      unfold NetD.kList
      rw [h2']
      simp [he]
     ·right
      unfold NetD.firstK
      rw [if_neg he]
      simp only [Int.toNat_natCast]
      refine ⟨Int.natCast_nonneg _, ?_⟩
      rw [hkl']
      unfold NetD.sz at hse
      have h5 : (j' + 1) * (N.outs p (k - 1) d').length ≤ (N.ins p (k - 1) d').length * (N.outs p (k - 1) d').length := Nat.mul_le_mul_right _ hj'
      rw [Nat.succ_mul] at h5
      omega
    ·obtain ⟨i', hi', rfl⟩ := List.mem_map.1 hr
     obtain ⟨mv, hmv, rfl⟩ := List.mem_map.1 hs
     have wb := NetD.w_bd G.ok mv
     unfold NetD.kStep
     split
     ·exact Int.le_refl _
     ·split
      ·exact wb.1
      ·show (0 : Int) ≤ 1152921504606846976
       omega
end
end Eva
end
section
open Go Go.RowKit
theorem at_slice {l : List Int} {i outs j : Nat} (hj : j < outs) : at_ ((l.drop (i * outs)).take outs) j = at_ l (i * outs + j) := by
 unfold at_
 rw [List.getElem?_take, if_pos hj, List.getElem?_drop]
theorem pl_of {m outs q : Nat} (h : q < m * outs) : q / outs < m ∧ q % outs < outs ∧ q / outs * outs + q % outs = q := by
 have h0 : 0 < outs := by
  rcases Nat.eq_zero_or_pos outs with h1 | h1
  ·rw [h1, Nat.mul_zero] at h; omega
  ·exact h1
 exact ⟨(Nat.div_lt_iff_lt_mul h0).2 h, Nat.mod_lt _ h0, by rw [Nat.mul_comm]; exact Nat.div_add_mod q outs⟩
theorem rows_nn {m outs : Nat} {steps : Nat → List Stp} {starts : List Nat} {l : List Int} (hl : l.length = m * outs) (hs : starts.length = m) (hr : ∀ i st, starts[i]? = some st → RowOk outs steps st ((l.drop (i * outs)).take outs)) : ∀ x ∈ l, 0 ≤ x := fun x hx => by
 obtain ⟨q, hq⟩ := List.getElem?_of_mem hx
 have hql := (List.getElem?_eq_some_iff.1 hq).1
 obtain ⟨h1, h2, h3⟩ := pl_of (hl ▸ hql)
 have h4 := (hr (q / outs) (starts[q / outs]'(by omega)) (List.getElem?_eq_getElem (by omega))).2 (q % outs) h2
 rw [at_slice h2, h3] at h4
 have : at_ l q = x := by unfold at_; rw [hq]; rfl
 rw [this] at h4
 exact h4.1.1
namespace Eva
section
variable {h : AH} {Q : Value → AH → Prop} {Fa F Fo F3 : Nat → Prop} {g o : Nat} {N : NetD} {p : List (List Int)} {k c : Nat} {A3 : Option Addr} {n3 K3 : Nat} {costs : List Int}
theorem aOne (G : GrA h Fa F g N) (hna3 : N.na ≤ 300) (O : OvA h Fo o N p) (hk : 1 ≤ k) (hkl : k ≤ p.length) (hc : c < most p k) (s3 : Sa cI F3 h A3 n3 K3 costs) (hlen : costs.length = N.size p) (hsz : N.size p ≤ 1000000) (hcb : ∀ x ∈ costs, 0 ≤ x)
  (hbel : 2 ≤ k → ∀ d, d < most p (k - 1) → CellOk N p costs (k - 1) d)
  (hK : ∀ (A : Option Addr) (n K : Nat) (l : List Int) (h' : AH), Sa cI (fun b => h.next ≤ b) h' A n K l → OneOk N p k c l → (∀ x ∈ l, 0 ≤ x) → Nw h h' → Q (.slice A n K) h') :
  WC Tryz.prog 60 [.pointer (some ⟨g, 0, none⟩), .pointer (some ⟨o, 0, none⟩), .int .i64 k, .int .i64 c, .slice A3 n3 K3] h Q := by
 have hna := G.few.2
 have hok := G.ok
 obtain ⟨ni, hni⟩ : ∃ ni, (N.ins p k c).length = ni := ⟨_, rfl⟩
 obtain ⟨no, hno⟩ : ∃ no, (N.outs p k c).length = no := ⟨_, rfl⟩
 have hni2 : ni ≤ 300 := by rw [← hni]; exact Nat.le_trans (takeN_len _ _) hna3
 have hno2 : no ≤ 300 := by rw [← hno]; exact Nat.le_trans (takeN_len _ _) hna3
 have hnn : ni * no ≤ 300 * 300 := Nat.mul_le_mul hni2 hno2
 have nil : ∀ h', Nw h h' → N.sz p k c = 0 → Q (.slice none 0 0) h' := fun h' a h0 => hK none 0 0 [] h' ⟨rfl, .inl ⟨rfl, rfl, rfl⟩, fun h => absurd h (Nat.lt_irrefl _)⟩ ⟨h0.symm, fun i j a b hi hj => by
  have := pl_lt (List.getElem?_eq_some_iff.1 hi).1 (List.getElem?_eq_some_iff.1 hj).1
  unfold NetD.sz at h0
  omega⟩ (by simp) a
 refine w_fill_One ⟨fun h => absurd h (by omega), fun _ => oCells O hk hkl ⟨_, rfl, fun h => absurd h (by omega), fun _ => oGate O hk hkl hc fun A2 K2 A3' K3' h2 sA sB k2 => ⟨_, _, _, _, _, _, rfl, fun h3 e3 => ?_⟩⟩⟩
 rw [hni] at sA ⊢
 rw [hno] at sB ⊢
 obtain ⟨h4, s4, k4, g4, z4⟩ := box_st (vs := [.slice A2 ni K2, .slice A3' no K3']) e3 rfl (flat2 rfl rfl)
 have k04 := k2.trans k4
 refine ⟨h4, s4, _, _, _, ldC_of g4 rfl, fun h0 => nil h4 k04 (by unfold NetD.sz; rw [hni, hno, show ni = 0 by omega, Nat.zero_mul]), fun hn0 => ⟨_, _, _, ldC_of g4 rfl, fun h0 => nil h4 k04 (by unfold NetD.sz; rw [hni, hno, show no = 0 by omega, Nat.mul_zero]), fun ho0 => ⟨fun hk1 => ?_, fun hk1 => ?_⟩⟩⟩
 ·obtain rfl : k = 1 := by omega
  refine ⟨_, _, _, _, _, _, ldN_bk g4 (by simp), _, _, _, ldC_of g4 rfl, ?_⟩
  have z2 := k2.next
  refine aByArcs (G.nw k04) (sA.nw k4) (sB.nw k4) fun L S sb A' K' h5 hL hN s5 k5 => ⟨_, _, _, _, _, _, rfl, ldC_of (k5.bk (by omega) g4) rfl, (sB.eqok), ?_⟩
  obtain ⟨hA, hF⟩ := hL.fld hok
  have hLl := hL.len
  rw [hno] at hF
  refine fLeast s5 hF (by have : 4294967296 * (L.length + 1) ≤ 4294967296 * 1001 := Nat.mul_le_mul_left _ (by omega); omega) (by omega) (by omega) (by omega) (fun s hs => ?_) hN fun C l h6 b6 hC hC2 hl hr k6 => ⟨_, _, _, rfl, ?_⟩
  ·have : s < ni := by simpa using hs
   obtain ⟨M, hM⟩ := hL.pre
   rw [hM, List.length_append]
   omega
  ·have k5' := k5.next
   refine hK _ _ _ l h6 ((Sa.of_ints b6 hl (F := fun b => h.next ≤ b) (by have := k04.next; omega) hC2)) ⟨by unfold NetD.sz; rw [hni, hno]; exact hl, fun i j a b hi hj => ?_⟩ (rows_nn hl (by simp) hr) (((k04.trans k5).trans k6))
   have hil : i < ni := by rw [← hni]; exact (List.getElem?_eq_some_iff.1 hi).1
   have hjl : j < no := by rw [← hno]; exact (List.getElem?_eq_some_iff.1 hj).1
   have := hA.row hF hi hno (hr i i (by rw [List.getElem?_range hil])) hj
   rw [at_slice hjl] at this
   rw [hno]
   exact this
 ·have hk2 : 2 ≤ k := by omega
  refine ⟨_, _, _, _, _, _, ldN_bk g4 (by simp), _, _, _, ldC_of g4 rfl, ?_⟩
  have z2 := k2.next
  refine aByKids (G.nw k04) (O.nw k04) hk2 hkl hc (sA.nw k4) (sB.nw k4) (s3.nw k04) hlen hsz hcb fun ks A' K' fb h5 hKs hN s5 k5 => ⟨_, _, _, _, _, _, rfl, ldC_of (k5.bk (by omega) g4) rfl, (sB.eqok), ?_⟩
  obtain ⟨hA, hF, hB⟩ := hKs.fld hok O.hp hk2 hkl (costs := costs) fun d hd => hbel hk2 d (hKs.lt O.hp hk2 hkl hd)
  have hLl := LK_len (N := N) (p := p) (k := k) hKs.asc (Nat.le_refl ks.length)
  rw [hno] at hF
  refine fLeast s5 hF (by
   have h1 : 4294967296 * (N.na + 2) ≤ 4294967296 * 302 := Nat.mul_le_mul_left _ (by omega)
   have h2 : 4294967296 * (N.na + 2) * ((N.LK p k ks ks.length).length + 1) ≤ (4294967296 * 302) * 301 := Nat.mul_le_mul h1 (by omega)
   omega) (by omega) (by omega) (by omega) (fun s hs => ?_) hN fun C l h6 b6 hC hC2 hl hr k6 => ⟨_, _, _, rfl, ?_⟩
  ·obtain ⟨a, ha, rfl⟩ := List.mem_map.1 hs
   exact List.idxOf_lt_length_of_mem ((hKs.in_kid hok O.hp hk2 hkl).2 (ins_nest hok O.hp hk2 hkl ha))
  ·have k5' := k5.next
   refine hK _ _ _ l h6 ((Sa.of_ints b6 hl (F := fun b => h.next ≤ b) (by have := k04.next; omega) hC2)) ⟨by unfold NetD.sz; rw [hni, hno]; exact hl, fun i j a b hi hj => ?_⟩ (rows_nn hl (by simp [hni]) hr) (((k04.trans k5).trans k6))
   have hjl : j < no := by rw [← hno]; exact (List.getElem?_eq_some_iff.1 hj).1
   have hst : ((N.ins p k c).map fun a => (N.LK p k ks ks.length).idxOf a)[i]? = some ((N.LK p k ks ks.length).idxOf a) := by rw [List.getElem?_map, hi]; rfl
   have := hA.row hok O.hp hk2 hkl hB hF hi hst hno (hr i _ hst) hj
   rw [at_slice hjl] at this
   rw [hno]
   exact this
end
end Eva
end
section
open Go Go.RowKit
namespace Eva
theorem sz64 : ∃ i, Tryz.prog.info? 2 = some i ∧ i.size = 1 := by
 obtain ⟨q, q1, q2, -⟩ := tyB_parts ty64
 exact ⟨q, q1, q2⟩
theorem sl_rest {P : Program} {e C n lo : Nat} (hT : ∃ i, P.info? e = some i ∧ i.size = 1) (h1 : lo ≤ n) : ∃ x K, (lo < n → x = lo) ∧ vSliceS P e (some ⟨C, 0, none⟩) n (cx n) (some lo) none none = some (.slice (some ⟨C, x, none⟩) (n - lo) K) := by
 obtain ⟨i, hi', hsz⟩ := hT
 unfold vSliceS
 rw [hi']
 have hc2 : (cx n) / 2 = n := by unfold cx; omega
 have hp : Nat.beq ((cx n) % 2) 0 = true := by
  have : (cx n) % 2 = 0 := by unfold cx; omega
  rw [this]; rfl
 have hb1 : Nat.ble n ((cx n) / 2) = true := Nat.ble_eq_true_of_le (by omega)
 have hb0 : Nat.ble lo n = true := Nat.ble_eq_true_of_le h1
 show ∃ x K, (lo < n → x = lo) ∧ cond (Option.isNone (none : Option Nat) || Option.isSome (none : Option Nat)) (sliceV i.size (some ⟨C, 0, none⟩) n (cx n) ((some lo).getD 0) none none) none = _
 simp only [Option.isNone_none, Bool.true_or, cond_true, Option.getD_some]
 unfold sliceV
 simp only [Option.getD_none, hb1, hb0, Bool.and_self, cond_true, hp]
 unfold sliceX addAt
 rw [hc2, hsz, Nat.mul_one]
 cases hb : Nat.beq n lo with
 | true =>
  have := beq_eq hb
  exact ⟨0, _, fun h => by omega, rfl⟩
 | false =>
  refine ⟨lo, cx (n - lo), fun _ => rfl, ?_⟩
  simp only [cond_false, Option.map_some]
  rw [Addr_add, Nat.zero_add]
section
variable {h : AH} {F : Nat → Prop}
theorem copyL {C n lo x K n2 K2 : Nat} {costs l : List Int} {A2 : Option Addr} (hb : Bk h C (costs.map (Value.int .i64)) 2) (hn : costs.length = n) (hl : Sa cI F h A2 n2 K2 l) (hlo : lo + n2 ≤ n) (hx : lo < n → x = lo) :
  ∃ h', lCopy Tryz.prog h (some (.slice 2)) (.slice (some ⟨C, x, none⟩) (n - lo) K) (.slice A2 n2 K2) = some (.int .i64 n2, h') ∧ Bk h' C ((putAt costs l lo).map (Value.int .i64)) 2 ∧ h'.next = h.next ∧ ∀ b, b ≠ C → h'.get b = h.get b := by
 obtain ⟨i, hi, hsz⟩ := sz64
 unfold lCopy
 simp only [lenA, hi, hsz]
 have hble : Nat.ble n2 (n - lo) = true := Nat.ble_eq_true_of_le (by omega)
 rw [hble]
 simp only [cond_true]
 have hl2 := hl.len
 have hf : firstOf h 1 n2 (.slice A2 n2 K2) = some (l.map (Value.int .i64)) := firstOf_cells (by simp [hl2]) fun h0 => by
  obtain ⟨b, o, hA, -, -, hx⟩ := hl.at_ h0
  refine ⟨b, o, hA, fun j u hu => ?_⟩
  rw [List.getElem?_map] at hu
  cases hj : l[j]? with
  | none => rw [hj] at hu; cases hu
  | some y =>
   rw [hj] at hu
   obtain rfl := Option.some.inj hu
   obtain ⟨cs, hc, hr⟩ := hx j y hj
   have hr' : cs = [.int .i64 y] := hr
   have := hc 0 (.int .i64 y) (by rw [hr']; rfl)
   simpa [Rc.int] using this
 rw [hf]
 simp only
 unfold copyTo
 rcases Nat.eq_zero_or_pos n2 with h0 | h0
 ·subst h0
  have : l = [] := List.eq_nil_of_length_eq_zero hl2
  subst this
  refine ⟨h, rfl, ?_, rfl, fun _ _ => rfl⟩
  unfold putAt
  simpa using hb
 ·have hb0 : Nat.beq (l.map (Value.int .i64)).length 0 = false := by
   cases hb0 : Nat.beq (l.map (Value.int .i64)).length 0 with
   | false => rfl
   | true => have := beq_eq hb0; simp at this; rw [this] at hl2; simp at hl2; omega
  simp only [hb0, cond_false]
  obtain rfl := hx (by omega)
  have := stN (h := h) (b := C) (o := x) (vs := l.map (Value.int .i64)) hb (by simp; omega) (fun v hv => by obtain ⟨y, -, rfl⟩ := List.mem_map.1 hv; rfl)
  unfold stC at this
  rw [this]
  refine ⟨_, rfl, ?_, rfl, fun b hb => by rw [get_put, if_neg hb]⟩
  show (h.put C _).get C = _
  rw [get_put, if_pos rfl]
  unfold putAt
  simp [List.map_take, List.map_drop]
end
section
variable {h : AH} {Q : Value → AH → Prop} {Fa F Fo : Nat → Prop} {g o : Nat} {N : NetD} {p : List (List Int)}
theorem putAt_nn {costs l : List Int} {i : Nat} (h1 : ∀ x ∈ costs, 0 ≤ x) (h2 : ∀ x ∈ l, 0 ≤ x) : ∀ x ∈ putAt costs l i, 0 ≤ x := fun x hx => by
 unfold putAt at hx
 rcases List.mem_append.1 hx with hx | hx
 ·rcases List.mem_append.1 hx with hx | hx
  ·exact h1 x (List.mem_of_mem_take hx)
  ·exact h2 x hx
 ·exact h1 x (List.mem_of_mem_drop hx)
theorem aAll (G : GrA h Fa F g N) (hna3 : N.na ≤ 300) (O : OvA h Fo o N p) (hsz : N.size p < 1000000)
  (hK : ∀ (C : Nat) (costs : List Int) (h' : AH), Bk h' C (costs.map (Value.int .i64)) 2 → h.next ≤ C → C < h'.next → CostsOk N p costs → (∀ x ∈ costs, 0 ≤ x) → Nw h h' → Q (.slice (some ⟨C, 0, none⟩) (N.size p) (cx (N.size p))) h') :
  WC Tryz.prog 56 [.pointer (some ⟨g, 0, none⟩), .pointer (some ⟨o, 0, none⟩)] h Q := by
 have hp6 := O.hp.few
 have hp1 := O.hp.some_
 obtain ⟨T, hT⟩ : ∃ T, N.size p = T := ⟨_, rfl⟩
 refine w_fill_All (oSize O ⟨_, rfl, T, by rw [hT], by omega, fun h2 e2 => ?_⟩)
 obtain ⟨k2, g2, z2⟩ := news e2
 rw [rep_one] at g2
 refine ⟨fun m x y h3 => ∃ (k : Nat) (costs : List Int), x = ((N.start p k 0 : Nat) : Int) ∧ y = k ∧ 1 ≤ k ∧ k ≤ p.length + 1 ∧ m = p.length + 1 - k ∧ costs.length = T ∧ Bk h3 h.next (costs.map (Value.int .i64)) 2 ∧ (∀ k' c', 1 ≤ k' → k' < k → c' < most p k' → CellOk N p costs k' c') ∧ (∀ x ∈ costs, 0 ≤ x) ∧ Nw h h3 ∧ h.next < h3.next, p.length, ⟨1, List.replicate T 0, by rw [NetD.start_one]; rfl, rfl, Nat.le_refl _, by omega, by omega, by simp, by simpa using g2, fun k' c' h1 h2 => by omega, fun x hx => by rw [List.eq_of_mem_replicate hx]; exact Int.le_refl _, k2, by omega⟩, ?_⟩
 rintro m x y h3 ⟨k, costs, rfl, rfl, hk1, hk2, rfl, hl, b3, hc, hnn, k3, hlt3⟩
 refine oLevels (O.nw k3) ⟨_, rfl, fun hle => ?_, fun hgt => ?_⟩
 ·have hkl : k ≤ p.length := by omega
  have wk : IntKind.i64.wrap ((k : Int) + 1) = ((k + 1 : Nat) : Int) := by rw [Int.natCast_succ]; exact wr_ok (by omega) (by omega)
  refine oCells (O.nw k3) hk1 hkl ⟨_, rfl, fun m x y h6 => ∃ (c : Nat) (costs : List Int), x = ((N.start p k c : Nat) : Int) ∧ y = c ∧ c ≤ most p k ∧ m = most p k - c ∧ costs.length = T ∧ Bk h6 h.next (costs.map (Value.int .i64)) 2 ∧ (∀ k' c', 1 ≤ k' → k' ≤ p.length → c' < most p k' → (k' < k ∨ (k' = k ∧ c' < c)) → CellOk N p costs k' c') ∧ (∀ x ∈ costs, 0 ≤ x) ∧ Nw h h6 ∧ h.next < h6.next, most p k, ⟨0, costs, rfl, rfl, Nat.zero_le _, rfl, hl, b3, fun k' c' h1 h2 h3 h4 => h4.elim (fun h => hc k' c' h1 h h3) (fun h => by omega), hnn, k3, hlt3⟩, ?_⟩
  rintro m x y h6 ⟨c, costs', rfl, rfl, hcm, rfl, hl', b6, hc', hnn', k6, hlt6⟩
  refine ⟨fun hlt => ?_, fun hge => ?_⟩
  ·have hcl : c < most p k := by omega
   have hse := NetD.start_end (N := N) hk1 hkl hcl
   obtain ⟨st, hst⟩ : ∃ st, N.start p k c = st := ⟨_, rfl⟩
   rw [hst] at hse
   have hmost : most p k ≤ N.nv := by
    obtain ⟨row, hr⟩ : ∃ row, p[k - 1]? = some row := ⟨_, List.getElem?_eq_getElem (by omega)⟩
    have h2 := most_row hr
    have h3 := mostOf_le (row := row) (n := (N.nv : Int)) (by omega) (fun x hx => (O.hp.inr _ (List.mem_of_getElem? hr) x hx).2)
    omega
   have hnv := O.nfew.1
   have wc : IntKind.i64.wrap ((c : Int) + 1) = ((c + 1 : Nat) : Int) := by rw [Int.natCast_succ]; exact wr_ok (by omega) (by omega)
   obtain ⟨x1, K1, hx1, hsl⟩ := sl_rest (P := Tryz.prog) (C := h.next) (n := T) (lo := st) sz64 (by omega)
   have s6 : Sa cI (fun b => b = h.next) h6 (some ⟨h.next, 0, none⟩) T (cx T) costs' := Sa.of_ints b6 hl' rfl hlt6
   refine ⟨st, by rw [hst], _, _, _, hsl, aOne (G.nw k6) hna3 (O.nw k6) hk1 hkl hcl s6 (by omega) (by omega) hnn' (fun h2 d hd => hc' (k - 1) d (by omega) (by omega) hd (.inl (by omega))) fun A2 n2 K2 l h7 s7 hone hlnn k7 => ⟨_, _, _, rfl, ?_⟩⟩
   have b7 := k7.bk hlt6 b6
   have hn2 : n2 = N.sz p k c := by rw [← s7.len]; exact hone.1
   obtain ⟨h8, y1, y2, y3, y4⟩ := copyL (K := K1) b7 hl' s7 (lo := st) (x := x1) (by omega) hx1
   have w9 : IntKind.i64.wrap ((st : Int) + (n2 : Int)) = ((N.start p k (c + 1) : Nat) : Int) := by
    rw [NetD.start_cell, hst, ← hn2, Int.natCast_add]
    exact wr_ok (by omega) (by omega)
   have z7 := k7.next
   refine ⟨_, h8, y1, _, w9, _, wc, most p k - (c + 1), by omega, c + 1, putAt costs' l st, rfl, rfl, hcl, rfl, by rw [putAt_len (by rw [s7.len]; omega)]; exact hl', y2, fun k' c' h1 h2 h3 h4 => ?_, putAt_nn hnn' hlnn, ⟨by have := k6.next; omega, fun b hb => (y4 b (by omega)).trans ((k7.get b (by omega)).trans (k6.get b hb))⟩, by omega⟩
   by_cases e : k = k' ∧ c = c'
   ·obtain ⟨rfl, rfl⟩ := e
    rw [← hst]
    exact CellOk.put (by omega) hk1 hkl hcl hone
   ·rw [← hst]
    exact CellOk.putO (by omega) hk1 hkl hcl hone.1 h1 h2 h3 e (hc' k' c' h1 h2 h3 (by omega))
  ·obtain rfl : c = most p k := by omega
   exact ⟨_, wk, p.length + 1 - (k + 1), by omega, k + 1, costs', by rw [NetD.start_lev hk1], rfl, by omega, by omega, rfl, hl', b6, fun k' c' h1 h2 h3 => hc' k' c' h1 (by omega) h3 (by
    rcases Nat.lt_or_ge k' k with h4 | h4
    ·exact .inl h4
    ·obtain rfl : k' = k := by omega
     exact .inr ⟨rfl, h3⟩), hnn', k6, hlt6⟩
 ·obtain rfl : k = p.length + 1 := by omega
  have := hK h.next costs h3 b3 (Nat.le_refl _) hlt3 ⟨by omega, fun k c h1 h2 h3 => hc k c h1 (by omega) h3⟩ hnn k3
  rwa [hT] at this
end
end Eva
end
section
open Go Go.RowKit
namespace Eva
theorem tyIs : tyB Tryz.prog 60 1 24 = true := by kernel_rfl
section
variable {h : AH} {Q : Value → AH → Prop} {F : Nat → Prop} {A : Option Addr} {n K : Nat} {p : List (List Int)}
theorem oTwin (hs : Sa cRows F h A n K p) (hn : n ≤ 1000) (hm : ∀ x ∈ p, x.length ≤ 100000) (hK : ∀ A' K' h', Sa cRows (fun b => h.next ≤ b) h' A' n K' p → Nw h h' → Q (.agg #[.slice A' n K']) h') : WC Tryz.prog 133 [.agg #[.slice A n K]] h Q := by
 refine w_over_twin fun h1 e1 h2 e2 h3 e3 => ?_
 obtain ⟨k1, g1, z1⟩ := news e1
 obtain ⟨k2, g2, z2⟩ := news e2
 obtain ⟨k3, g3, z3⟩ := news e3
 have hpl := hs.len
 refine ⟨_, _, _, ldC_of ((k2.trans k3).bk (by omega) g1) rfl, fun m x h4 => ∃ (i : Nat) (A' : Option Addr) (K' : Nat) (D : Nat → Prop), x = i ∧ i ≤ n ∧ m = n - i ∧ Bk h4 h2.next [.slice A' i K'] 92 ∧ OwnP cRows h4 D 60 A' i K' (p.take i) ∧ (∀ b, D b → h3.next ≤ b ∧ b < h4.next) ∧ h3.next ≤ h4.next ∧ (∀ b, b < h3.next → b ≠ h2.next → h4.get b = h3.get b), n, ⟨0, none, 0, fun _ => False, rfl, Nat.zero_le _, rfl, g3, OwnP.nil _ _ _ _, fun b hb => hb.elim, Nat.le_refl _, fun _ _ _ => rfl⟩, ?_⟩
 rintro m x h4 ⟨i, A', K', D, rfl, hi, rfl, b4, o4, hD, hz4, q4⟩
 have k04 : Nw h h4 := ⟨by omega, fun b hb => (q4 b (by omega) (by omega)).trans (((k1.trans k2).trans k3).get b hb)⟩
 refine ⟨fun hlt => ?_, fun hge => ?_⟩
 ·have hil : i < n := by omega
  obtain ⟨b, o, A3, n3, K3, row, hA, -, -, hr, e0, s0⟩ := (hs.nw k04).row (k := i) hil
  have hrl := hm row (List.mem_of_getElem? hr)
  have w1 : IntKind.i64.wrap ((i : Int) + 1) = ((i + 1 : Nat) : Int) := by rw [Int.natCast_succ]; exact wr_ok (by omega) (by omega)
  refine ⟨i, rfl, b, o, hA, hil, _, _, _, e0, _, _, _, ldC_of b4 rfl, oFresh s0 (by rw [← s0.len]; exact hrl) fun A5 K5 h5 s5 k5 => ⟨_, _, _, rfl, ldC_of (k5.bk (by omega) b4) rfl, o4.spot, fun h6 e6 => ?_⟩⟩
  obtain ⟨k6, g6, z6⟩ := news e6
  have z5 := k5.next
  have hz : Sz cRows (fun b => h4.next ≤ b ∧ b < h6.next) h6 (some ⟨h5.next, 0, none⟩) 1 2 [row] := Sz.one g6 ⟨by omega, by omega⟩ (by omega) rfl ⟨A5, n3, K5, rfl, (s5.nw k6).mono fun b hb hlt => ⟨hb, hlt⟩⟩
  obtain ⟨A6, K6, h7, y1, y2, y3, y4⟩ := app_rows (r := cRows) (bytes := 24) tyIs (o4.nw (k5.trans k6)) hz (fun b hb ho => by have := (hD b (o4.lt ho).1).2; omega) (by omega) (by omega)
  have z7 := y3.next
  have b7 : Bk h7 h2.next [.slice A' i K'] 92 := y3.bk (by omega) (fun ho => by have := (hD _ (o4.lt ho).1).1; omega) ((k5.trans k6).bk (by omega) b4)
  obtain ⟨h8, s8, b8, z8, o8⟩ := st_one (v := .slice A6 (i + 1) K6) b7 (o := 0) (by simp) rfl
  refine ⟨A6, i + 1, K6, h7, y1, h8, s8, _, w1, n - (i + 1), by omega, i + 1, A6, K6, fun b => (D b ∨ (h4.next ≤ b ∧ b < h6.next) ∨ b = h6.next) ∧ b < h7.next, rfl, hil, rfl, b8, ?_, fun b hb => ?_, by omega, fun b hb hne => (o8 b hne).trans ((y3.get b (by omega) (fun ho => by have := (hD _ (o4.lt ho).1).1; omega)).trans (((k5.trans k6).get b (by omega)).trans (q4 b hb hne)))⟩
  ·rw [List.take_add_one, hr]
   exact (y2.mono (D' := fun b => (D b ∨ (h4.next ≤ b ∧ b < h6.next) ∨ b = h6.next) ∧ b < h7.next) fun b hb hlt => ⟨hb, hlt⟩).keep (fun b hb _ => o8 b (by
    rcases hb.1 with h9 | h9 | h9
    ·have := (hD b h9).1; omega
    ·omega
    ·omega)) (by omega)
  ·rcases hb.1 with h9 | h9 | h9
   ·have := hD b h9; omega
   ·omega
   ·omega
 ·obtain rfl : i = n := by omega
  rw [List.take_of_length_le (by omega)] at o4
  have b1 : Bk h4 h1.next [.slice none 0 0] 92 := (q4 _ (by omega) (by omega)).trans (k3.bk (by omega) g2)
  obtain ⟨h9, s9, b9, z9, o9⟩ := st_one (v := .slice A' i K') b1 (o := 0) (by simp) rfl
  refine ⟨_, _, _, ldN1 (ldC_of b4 rfl), h9, s9, _, _, _, ldN1 (ldC_of b9 rfl), hK A' K' h9 ((o4.sa.keep (fun b hb _ => o9 b (by have := (hD b hb).1; omega)) (by omega)).mono fun b hb _ => by have := (hD b hb).1; omega) ⟨by omega, fun b hb => (o9 b (by omega)).trans (k04.get b hb)⟩⟩
theorem oPart {o : Nat} {N : NetD} (O : OvA h F o N p) (hK : ∀ A' K' h', Sa cRows (fun b => h.next ≤ b) h' A' p.length K' p → Nw h h' → Q (.agg #[.slice A' p.length K']) h') : WC Tryz.prog 62 [.pointer (some ⟨o, 0, none⟩)] h Q := by
 refine w_over_Over_Part fun h1 e1 => ?_
 obtain ⟨k1, g1, z1⟩ := news e1
 obtain ⟨A, n, K, c0, s⟩ := (O.nw k1).part
 have hn := s.len
 have hp6 := O.hp.few
 have hnv := O.hp.nv_
 refine ⟨o, 0, rfl, A, n, K, ldN1 c0, oTwin s (by omega) (fun x hx => by have := O.hp.rows x hx; omega) fun A' K' h2 s2 k2 => ⟨_, _, _, rfl, ?_⟩⟩
 have b2 := k2.bk (by omega) g1
 obtain ⟨h3, s3, b3, z3, o3⟩ := st_one (v := .slice A' n K') b2 (o := 0) (by simp) rfl
 have z2 := k2.next
 refine ⟨h3, s3, _, _, _, ldN1 (ldC_of b3 rfl), ?_⟩
 have hh := hK A' K' h3 (by rw [hn]; exact (s2.keep (fun b hb _ => o3 b (by omega)) (by omega)).mono fun b hb _ => by omega) ⟨by omega, fun b hb => (o3 b (by omega)).trans ((k1.trans k2).get b hb)⟩
 rwa [hn] at hh
theorem idx3 (a b c : Int) : vIndex Tryz.prog (some (.array 3 3)) (.agg #[.int .i64 a, .int .i64 b, .int .i64 c]) (some 0) = some (.int .i64 a) ∧ vIndex Tryz.prog (some (.array 3 3)) (.agg #[.int .i64 a, .int .i64 b, .int .i64 c]) (some 1) = some (.int .i64 b) ∧ vIndex Tryz.prog (some (.array 3 3)) (.agg #[.int .i64 a, .int .i64 b, .int .i64 c]) (some 2) = some (.int .i64 c) := ⟨by kernel_rfl, by kernel_rfl, by kernel_rfl⟩
theorem aLevelOf {nv : Nat} (hp : PartOk nv p) (hs : Sa cRows F h A n K p) {v a b : Nat} (hv : v < nv) (ha : a < nv) (hb : b < nv) (hK : Q (.int .i64 ((levUp p v a b n : Nat) : Int)) h) : WC Tryz.prog 144 [.slice A n K, .int .i64 v, .int .i64 a, .int .i64 b] h Q := by
 have hn6 : n ≤ 6 := by rw [← hs.len]; exact hp.few
 have hnv := hp.nv_
 refine w_ask_levelOf ⟨fun m x h1 => ∃ k : Nat, x = k ∧ k ≤ n ∧ m = k ∧ levUp p v a b n = levUp p v a b k ∧ h1 = h, n, ⟨n, rfl, Nat.le_refl _, rfl, rfl, rfl⟩, ?_⟩
 rintro m x h1 ⟨k, rfl, hk, rfl, hlv, rfl⟩
 refine ⟨fun hge => ?_, fun hlt => ?_⟩
 ·obtain ⟨k, rfl⟩ : ∃ k', m = k' + 1 := ⟨m - 1, by omega⟩
  have wk : IntKind.i64.wrap (((k + 1 : Nat) : Int) - 1) = (k : Int) := by
   rw [show ((k + 1 : Nat) : Int) - 1 = (k : Int) by omega]; exact wr_ok (by omega) (by omega)
  obtain ⟨b1, o1, A2, n2, K2, row, rfl, -, -, hr, e0, s2⟩ := hs.row (k := k) (by omega)
  have hr' : p[k + 1 - 1]? = some row := hr
  obtain ⟨hl, hx⟩ := part_row hp hr'
  have hn2 : n2 = nv := by rw [← s2.len]; exact hl
  subst hn2
  obtain ⟨v0, hv0, hv1, -⟩ := hx v hv
  obtain ⟨a0, ha0, ha1, -⟩ := hx a ha
  obtain ⟨b0, hb0, hb1, -⟩ := hx b hb
  have rd : ∀ {j : Nat} {y : Int}, j < n2 → row[j]? = some y → ∃ b2 o2, A2 = some ⟨b2, o2, none⟩ ∧ ldC h1 b2 (o2 + j) = some (.int .i64 y) := fun {j y} hj hy => by
   obtain ⟨b2, o2, y', rfl, -, -, hy', e⟩ := s2.int (k := j) hj
   rw [hy] at hy'
   obtain rfl := Option.some.inj hy'
   exact ⟨b2, o2, rfl, e⟩
  obtain ⟨b2, o2, rfl, ev⟩ := rd hv hv0
  have ea : ldC h1 b2 (o2 + a) = some (.int .i64 a0) := by
   obtain ⟨b3, o3, hA, e⟩ := rd ha ha0
   injection hA with hA
   injection hA with h1 h2
   subst h1 h2
   exact e
  have eb : ldC h1 b2 (o2 + b) = some (.int .i64 b0) := by
   obtain ⟨b3, o3, hA, e⟩ := rd hb hb0
   injection hA with hA
   injection hA with h1 h2
   subst h1 h2
   exact e
  have cv : cel p (k + 1) v = v0.toNat := cel_row hr' hv0
  have ca : cel p (k + 1) a = a0.toNat := cel_row hr' ha0
  have cb : cel p (k + 1) b = b0.toNat := cel_row hr' hb0
  have hdown : (cel p (k + 1) v = cel p (k + 1) a ∨ cel p (k + 1) v = cel p (k + 1) b) → levUp p v a b n = levUp p v a b k := fun h => by
   rw [hlv, levUp, if_neg (fun h' => h.elim h'.1 h'.2)]
  obtain ⟨i0, i1, i2⟩ := idx3 (v : Int) (a : Int) (b : Int)
  refine ⟨_, wk, k, rfl, b1, o1, rfl, by omega, _, _, _, e0, fun m x h2 => ∃ j : Nat, x = j ∧ j ≤ 3 ∧ m = 3 - j ∧ h2 = h1, 3, ⟨0, rfl, by omega, rfl, rfl⟩, ?_⟩
  rintro m x h2 ⟨j, rfl, hj, rfl, rfl⟩
  refine ⟨fun hj3 => ?_, fun hj3 => ?_⟩
  ·have fin : ∀ y : Nat, y < n2 → (((y : Int) < 0 → Q (.int .i64 0) h2) ∧ (¬ ((y : Int) < 0) → (((n2 : Int) : Int) ≤ y → Q (.int .i64 0) h2) ∧ (¬ (((n2 : Int) : Int) ≤ y) → ∃ x8 : Int, IntKind.i64.wrap ((j : Int) + 1) = x8 ∧ ∃ m' : Nat, m' < 3 - j ∧ ∃ j' : Nat, x8 = j' ∧ j' ≤ 3 ∧ m' = 3 - j' ∧ h2 = h2))) := fun y hy =>
    ⟨fun h => absurd h (by omega), fun _ => ⟨fun h => absurd h (by omega), fun _ => ⟨_, wr_ok (by omega) (by omega), 3 - (j + 1), by omega, j + 1, by omega, by omega, rfl, rfl⟩⟩⟩
   match j, hj3 with
   | 0, _ => exact ⟨0, rfl, _, i0, fin v hv⟩
   | 1, _ => exact ⟨1, rfl, _, i1, fin a ha⟩
   | 2, _ => exact ⟨2, rfl, _, i2, fin b hb⟩
   | j + 3, h => exact absurd h (by omega)
  ·refine ⟨v, rfl, b2, o2, rfl, hv, _, ev, a, rfl, ha, _, ea, fun he => ⟨_, wk, k, by omega, k, rfl, by omega, rfl, hdown (.inl (by rw [cv, ca, he])), rfl⟩, fun hne => ⟨hv, _, ev, b, rfl, hb, _, eb, fun he => ⟨_, wk, k, by omega, k, rfl, by omega, rfl, hdown (.inr (by rw [cv, cb, he])), rfl⟩, fun hne2 => ?_⟩⟩
   rw [hlv, levUp, if_pos ⟨by rw [cv, ca]; omega, by rw [cv, cb]; omega⟩] at hK
   exact hK
 ·obtain rfl : m = 0 := by omega
  rw [hlv] at hK
  exact hK
end
end Eva
end
section
open Go Go.RowKit
noncomputable def NetD.le (N : NetD) (p : List (List Int)) (costs : List Int) (s t : Nat) (a b : Nat) : Option Nat := leapE N.e (N.lp p (N.ent p costs) (N.lev p s t)) N.to (N.lev p s t) a b
structure NextR (N : NetD) (p : List (List Int)) (costs : List Int) (s t a : Nat) (ol : List Nat) (pr : List Int) : Prop where
 len : pr.length = ol.length
 lt : ∀ b ∈ ol, b < N.na
 nn : ∀ x ∈ pr, 0 ≤ x ∧ x ≤ INF
 here : ∀ (i b : Nat) (x : Int), ol[i]? = some b → pr[i]? = some x → x < INF → N.w b < INF → N.le p costs s t a b = some (x.toNat + (N.w b).toNat)
 all : ∀ (b y : Nat), N.le p costs s t a b = some y → ∃ (i : Nat) (x : Int), ol[i]? = some b ∧ pr[i]? = some x ∧ x < INF ∧ N.w b < INF ∧ y = x.toNat + (N.w b).toNat
 few : ol.length ≤ N.na
section
variable {N : NetD} {p : List (List Int)} {costs : List Int} {s t a : Nat}
theorem lev_eq (hok : N.Ok) (ha : a < N.na) : N.lev p s t (N.to a) = levUp p (N.to a) (N.to s) (N.fr t) p.length := by
 unfold NetD.lev
 have := (NetD.to_lt hok ha).1
 rw [Nat.min_eq_left (by omega)]
theorem nextR_arcs (hok : N.Ok) (ha : a < N.na) (hl : N.lev p s t (N.to a) = 0) : NextR N p costs s t a (N.from_ (N.to a)) ((N.from_ (N.to a)).map fun b => N.turn a b) := by
 refine ⟨by simp, fun b hb => ((NetD.mem_from hok).1 hb).1, fun x hx => ?_, fun i b x hi hx h1 h2 => ?_, fun b y hy => ?_, takeN_len _ _⟩
 ·obtain ⟨b, -, rfl⟩ := List.mem_map.1 hx
  have := NetD.turn_bd hok a b
  unfold INF at *
  omega
 ·rw [List.getElem?_map, hi] at hx
  obtain rfl := Option.some.inj hx
  unfold NetD.le leapE
  rw [if_pos hl]
  exact NetD.e_some.2 ⟨h1, h2, rfl⟩
 ·unfold NetD.le leapE at hy
  rw [if_pos hl] at hy
  obtain ⟨h1, h2, rfl⟩ := NetD.e_some.1 hy
  obtain ⟨-, t2, t3⟩ := NetD.turn_in h1
  obtain ⟨i, hi⟩ := List.getElem?_of_mem ((NetD.mem_from hok).2 ⟨t2, t3.symm⟩)
  exact ⟨i, _, hi, by rw [List.getElem?_map, hi]; rfl, h1, h2, rfl⟩
theorem lp_some {ent : Nat → Nat → Nat → Int} {lev : Nat → Nat} {b y : Nat} : N.lp p ent lev a b = some y ↔ a < N.na ∧ b < N.na ∧ N.inA p (lev (N.to a)) (cel p (lev (N.to a)) (N.to a)) a ∧ N.outA p (lev (N.to a)) (cel p (lev (N.to a)) (N.to a)) b ∧ ent (lev (N.to a)) a b < INF ∧ N.w b < INF ∧ y = (ent (lev (N.to a)) a b).toNat + (N.w b).toNat := by
 unfold NetD.lp
 split
 ·rename_i h
  simp only [Option.some.injEq]
  constructor
  ·rintro rfl; exact ⟨h.1, h.2.1, h.2.2.1, h.2.2.2.1, h.2.2.2.2.1, h.2.2.2.2.2, rfl⟩
  ·rintro ⟨_, _, _, _, _, _, rfl⟩; rfl
 ·rename_i h
  constructor
  ·intro h'; cases h'
  ·rintro ⟨h1, h2, h3, h4, h5, h6, _⟩; exact absurd ⟨h1, h2, h3, h4, h5, h6⟩ h
theorem nextR_none (hl : N.lev p s t (N.to a) ≠ 0) (h : a ∉ N.ins p (N.lev p s t (N.to a)) (cel p (N.lev p s t (N.to a)) (N.to a)) ∨ N.outs p (N.lev p s t (N.to a)) (cel p (N.lev p s t (N.to a)) (N.to a)) = []) : NextR N p costs s t a [] [] := by
 refine ⟨rfl, by simp, by simp, by simp, fun b y hy => ?_, Nat.zero_le _⟩
 unfold NetD.le leapE at hy
 rw [if_neg hl] at hy
 obtain ⟨h1, h2, h3, h4, -⟩ := lp_some.1 hy
 exfalso
 rcases h with h | h
 ·exact h (NetD.mem_ins.2 ⟨h1, h3⟩)
 ·have := NetD.mem_outs.2 ⟨h2, h4⟩
  rw [h] at this
  cases this
theorem nextR_leaps (hok : N.Ok) (hp : PartOk N.nv p) (hco : CostsOk N p costs) (ha : a < N.na) {l c : Nat} (hl : N.lev p s t (N.to a) = l) (hl0 : l ≠ 0) (hc : cel p l (N.to a) = c) (hin : a ∈ N.ins p l c) :
  NextR N p costs s t a (N.outs p l c) ((costs.drop (N.start p l c + (N.ins p l c).idxOf a * (N.outs p l c).length)).take (N.outs p l c).length) := by
 have hll : l ≤ p.length := by rw [← hl]; exact levUp_le _ _ _ _ _
 have hto := (NetD.to_lt hok ha).1
 have hcm : c < most p l := by rw [← hc]; exact cel_most hp (by omega) hll hto
 have hse := NetD.start_end (N := N) (p := p) (k := l) (by omega) hll hcm
 have hidx := List.idxOf_lt_length_of_mem hin
 have hmul : ((N.ins p l c).idxOf a + 1) * (N.outs p l c).length ≤ (N.ins p l c).length * (N.outs p l c).length := Nat.mul_le_mul_right _ hidx
 rw [Nat.succ_mul] at hmul
 unfold NetD.sz at hse
 have hlen := hco.1
 have get : ∀ {i : Nat}, i < (N.outs p l c).length → ((costs.drop (N.start p l c + (N.ins p l c).idxOf a * (N.outs p l c).length)).take (N.outs p l c).length)[i]? = some (at_ costs (N.start p l c + ((N.ins p l c).idxOf a * (N.outs p l c).length + i))) := fun {i} hi => by
  rw [List.getElem?_take, if_pos hi, List.getElem?_drop, Nat.add_assoc]
  unfold at_
  rw [List.getElem?_eq_getElem (by omega)]
  rfl
 have ent : ∀ {i b : Nat}, (N.outs p l c)[i]? = some b → N.ent p costs l a b = at_ costs (N.start p l c + ((N.ins p l c).idxOf a * (N.outs p l c).length + i)) := fun {i b} hi => by
  unfold NetD.ent
  have e : (N.outs p l c).idxOf b = i := asc_one (takeN_asc _ _) (get_idxOf (List.mem_of_getElem? hi)) hi
  rw [hc, e]
 refine ⟨by rw [List.length_take, List.length_drop]; omega, fun b hb => (NetD.mem_outs.1 hb).1, fun x hx => ?_, fun i b x hi hx h1 h2 => ?_, fun b y hy => ?_, takeN_len _ _⟩
 ·obtain ⟨i, hi⟩ := List.getElem?_of_mem hx
  have hil : i < (N.outs p l c).length := by
   have := (List.getElem?_eq_some_iff.1 hi).1
   rw [List.length_take] at this
   omega
  rw [get hil] at hi
  obtain rfl := Option.some.inj hi
  exact (hco.2 l c (by omega) hll hcm _ i a _ (get_idxOf hin) (List.getElem?_eq_getElem hil)).bd
 ·rw [get (List.getElem?_eq_some_iff.1 hi).1] at hx
  have hx' := Option.some.inj hx
  unfold NetD.le leapE
  rw [if_neg (by rw [hl]; exact hl0)]
  obtain ⟨o1, o2⟩ := NetD.mem_outs.1 (List.mem_of_getElem? hi)
  refine lp_some.2 ⟨ha, o1, ?_, ?_, ?_, h2, ?_⟩
  ·rw [hl, hc]; exact (NetD.mem_ins.1 hin).2
  ·rw [hl, hc]; exact o2
  ·rw [hl, ent hi, hx']; exact h1
  ·rw [hl, ent hi, hx']
 ·unfold NetD.le leapE at hy
  rw [if_neg (by rw [hl]; exact hl0)] at hy
  obtain ⟨h1, h2, h3, h4, h5, h6, rfl⟩ := lp_some.1 hy
  rw [hl, hc] at h4
  rw [hl] at h5 ⊢
  obtain ⟨i, hi⟩ := List.getElem?_of_mem (NetD.mem_outs.2 ⟨h2, h4⟩)
  refine ⟨i, _, hi, get (List.getElem?_eq_some_iff.1 hi).1, ?_, h6, ?_⟩
  ·rw [← ent hi]; exact h5
  ·rw [← ent hi]
end
namespace Eva
def GateOk (N : NetD) (p : List (List Int)) (D : Nat → Prop) (h : AH) (l c : Nat) (v : Value) : Prop :=
 ∃ A K B L, v = .agg #[.slice A (N.ins p l c).length K, .slice B (N.outs p l c).length L] ∧ Sa cI D h A (N.ins p l c).length K (ints (N.ins p l c)) ∧ Sa cI D h B (N.outs p l c).length L (ints (N.outs p l c))
structure QA (h0 : AH) (N : NetD) (p : List (List Int)) (g o C s t q mp bf : Nat) (cA : Option Addr) (cK : Nat) (D : Nat → Prop) (h : AH) : Prop where
 nw : Nw h0 h
 blk : Bk h q [.pointer (some ⟨g, 0, none⟩), .pointer (some ⟨o, 0, none⟩), .slice (some ⟨C, 0, none⟩) (N.size p) (cx (N.size p)), .int .i64 s, .int .i64 t, .slice cA p.length cK, .map (some mp), .slice (some ⟨bf, 0, none⟩) N.na (cx N.na)] 174
 cells : Sa cRows D h cA p.length cK p
 map_ : ∃ f, MapF kNN h mp f ∧ ∀ l c v, f (l, c) = some v → GateOk N p D h l c v
 dlo : ∀ b, D b → h0.next ≤ b ∧ b < h.next ∧ b ≠ q ∧ b ≠ mp ∧ b ≠ bf
 pos : h0.next ≤ q ∧ h0.next ≤ mp ∧ h0.next ≤ bf ∧ q ≠ mp ∧ q ≠ bf ∧ mp ≠ bf ∧ q < h.next ∧ mp < h.next ∧ bf < h.next
section
variable {h h' h0 : AH} {Q : Value → AH → Prop} {Fa F Fo : Nat → Prop} {N : NetD} {p : List (List Int)} {g o C s t q mp bf : Nat} {cA : Option Addr} {cK : Nat} {D : Nat → Prop} {a : Nat}
theorem QA.off {S : Nat → Prop} (B : QA h0 N p g o C s t q mp bf cA cK D h) (m : Mt S h h') (hS : ∀ b, S b → h0.next ≤ b ∧ b ≠ q ∧ b ≠ mp ∧ ¬ D b) : QA h0 N p g o C s t q mp bf cA cK D h' := by
 obtain ⟨p1, p2, p3, p4, p5, p6, p7, p8, p9⟩ := B.pos
 have z := m.next
 have nD : ∀ {b}, D b → ¬ S b := fun hd hs => (hS _ hs).2.2.2 hd
 obtain ⟨f, f1, f2⟩ := B.map_
 refine ⟨m.is_nw B.nw fun b hb => (hS b hb).1, m.bk p7 (fun hs => (hS _ hs).2.1 rfl) B.blk, B.cells.off m fun b hb => nD hb, ⟨f, f1.keep (m.get _ p8 (fun hs => (hS _ hs).2.2.1 rfl)), fun l c v hv => ?_⟩, fun b hb => by have := B.dlo b hb; omega, by omega⟩
 obtain ⟨A, K, B', L, e, s1, s2⟩ := f2 l c v hv
 exact ⟨A, K, B', L, e, s1.off m fun b hb => nD hb, s2.off m fun b hb => nD hb⟩
theorem QA.next (B : QA h0 N p g o C s t q mp bf cA cK D h) (a : Nw h h') : QA h0 N p g o C s t q mp bf cA cK D h' := B.off (S := fun _ => False) (Mt.of a) (fun b hb => hb.elim)
theorem aLevel (B : QA h0 N p g o C s t q mp bf cA cK D h) (G : GrA h0 Fa F g N) (hp : PartOk N.nv p) (hs : s < N.na) (ht : t < N.na) (ha : a < N.na) (hK : Q (.int .i64 ((N.lev p s t (N.to a) : Nat) : Int)) h) : WC Tryz.prog 69 [.pointer (some ⟨q, 0, none⟩), .int .i64 a] h Q := by
 have G1 := G.nw B.nw
 have c0 : ldC h q 0 = some (.pointer (some ⟨g, 0, none⟩)) := ldC_of B.blk rfl
 have c3 : ldC h q (0 + 3) = some (.int .i64 s) := ldC_of B.blk rfl
 have c4 : ldC h q (0 + 4) = some (.int .i64 t) := ldC_of B.blk rfl
 have c5 : ldC h q (0 + 5) = some (.slice cA p.length cK) := ldC_of B.blk rfl
 rw [lev_eq G.ok ha] at hK
 exact w_ask_quest_level ⟨q, 0, rfl, _, _, _, c5, _, c0, _, c0, _, c3, _, c0, _, c4, aTo G1 ha ⟨_, rfl, c4, c0, rfl, c3, c0, rfl, c5, B.cells.eqok, aTo G1 hs ⟨_, rfl, c4, c0, rfl, c5, B.cells.eqok, aFrom G1 ht ⟨_, rfl, c5, B.cells.eqok, aLevelOf hp B.cells (NetD.to_lt G.ok ha).1 (NetD.to_lt G.ok hs).1 (NetD.fr_lt G.ok ht).1 ⟨_, rfl, hK⟩⟩⟩⟩⟩
theorem keyG : KeyOk Tryz.prog 273 kNN := by
 obtain ⟨i, hi, hsz, -⟩ := tyB_parts tyI8
 exact keyNN (d := .i64) Tryz.underlying273 Tryz.underlying3 hi hsz
theorem infoG : ∃ i, Tryz.prog.info? 99 = some i ∧ i.zero = some (.agg #[.slice none 0 0, .slice none 0 0]) := by
 obtain ⟨i, hi, -⟩ := tyB_parts tyG
 refine ⟨i, hi, ?_⟩
 have : (match Tryz.prog.info? 99 with | some i => i.zero | none => none) = some (.agg #[.slice none 0 0, .slice none 0 0]) := by kernel_rfl
 rw [hi] at this
 exact this
theorem oAtF (O : OvA h Fo o N p) {k d : Nat} (hk : 1 ≤ k) (hkl : k ≤ p.length) (hd : d < most p k)
  (h1 : ∀ h', a ∉ N.ins p k d ∨ N.outs p k d = [] → Nw h h' → Q (.int .i64 (-1)) h')
  (h2 : ∀ h', a ∈ N.ins p k d → N.outs p k d ≠ [] → Nw h h' → Q (.int .i64 ((N.start p k d + (N.ins p k d).idxOf a * (N.outs p k d).length : Nat) : Int)) h') :
  WC Tryz.prog 10 [.pointer (some ⟨o, 0, none⟩), .int .i64 k, .int .i64 d, .int .i64 (placeI (N.ins p k d) a), .int .i64 0] h Q := by
 by_cases ha : a ∈ N.ins p k d
 ·have hpl : placeI (N.ins p k d) a = (((N.ins p k d).idxOf a : Nat) : Int) := by unfold placeI; rw [if_pos ha]
  rw [hpl]
  have hidx := List.idxOf_lt_length_of_mem ha
  by_cases he : N.outs p k d = []
  ·obtain ⟨k', rfl⟩ : ∃ k', k = k' + 1 := ⟨k - 1, by omega⟩
   have h0 : (N.outs p (k' + 1) d).length = 0 := by rw [he]; rfl
   have hp6 := O.hp.few
   obtain ⟨b1, o1, n1, K1, b2, o2, K2, A3, K3, A4, K4, c3, hkn, l1, e2, l2, e3, e4, s3, s4⟩ := O.gate_ (k := k') (by omega) hd
   rw [h0] at e4
   refine w_over_Over_At (oHas O (by omega) (by omega) hd ⟨_, rfl, fun _ => ?_, fun h => Bool.noConfusion h⟩)
   refine ⟨_, _, rfl, _, _, _, c3, _, wr_ok (by omega) (by omega), k', by omega, _, _, rfl, hkn, _, _, _, e2, d, rfl, _, _, rfl, hd, _, _, _, _, _, _, ldN2 e3 e4, fun h2 e7 => ?_⟩
   obtain ⟨h3, hs3, k3, g3, z3⟩ := box_st (vs := [.slice A3 (N.ins p (k' + 1) d).length K3, .slice A4 0 K4]) e7 rfl (flat2 rfl rfl)
   exact ⟨h3, hs3, fun h => absurd h (by omega), fun _ => ⟨_, _, _, ldC_of g3 rfl, fun h => absurd h (by omega), fun _ => ⟨fun h => absurd h (by omega), fun _ => ⟨_, _, _, ldC_of g3 rfl, fun _ => h1 _ (.inr he) k3, fun h => absurd (Int.le_refl _) h⟩⟩⟩⟩
  ·have h0 : 0 < (N.outs p k d).length := by cases hx : N.outs p k d with | nil => exact absurd hx he | cons x l => simp
   refine oAt O (j := 0) (by omega) (by omega) hd hidx h0 fun h' k' => ?_
   have := h2 h' ha he k'
   rwa [Nat.add_zero]
 ·have hpl : placeI (N.ins p k d) a = -1 := by unfold placeI; rw [if_neg ha]
  rw [hpl]
  obtain ⟨k', rfl⟩ : ∃ k', k = k' + 1 := ⟨k - 1, by omega⟩
  have hp6 := O.hp.few
  obtain ⟨b1, o1, n1, K1, b2, o2, K2, A3, K3, A4, K4, c3, hkn, l1, e2, l2, e3, e4, s3, s4⟩ := O.gate_ (k := k') (by omega) hd
  refine w_over_Over_At (oHas O (by omega) (by omega) hd ⟨_, rfl, fun _ => ?_, fun h => Bool.noConfusion h⟩)
  refine ⟨_, _, rfl, _, _, _, c3, _, wr_ok (by omega) (by omega), k', by omega, _, _, rfl, hkn, _, _, _, e2, d, rfl, _, _, rfl, hd, _, _, _, _, _, _, ldN2 e3 e4, fun h2 e7 => ?_⟩
  obtain ⟨h3, hs3, k3, g3, z3⟩ := box_st (vs := [.slice A3 (N.ins p (k' + 1) d).length K3, .slice A4 (N.outs p (k' + 1) d).length K4]) e7 rfl (flat2 rfl rfl)
  exact ⟨h3, hs3, fun _ => h1 _ (.inl ha) k3, fun h => absurd (show (-1 : Int) < 0 by omega) h⟩
end
end Eva
end
section
open Go Go.RowKit
namespace Eva
theorem part_set {xs : List Int} {ys : List Int} {i : Nat} {y : Int} (hy : ys[i]? = some y) : (ys.take i ++ List.replicate (ys.length - i) 0).set i y = ys.take (i + 1) ++ List.replicate (ys.length - (i + 1)) 0 := by
 have hi := (List.getElem?_eq_some_iff.1 hy).1
 rw [List.set_append_right _ _ (by rw [List.length_take]; omega), List.length_take, Nat.min_eq_left (by omega), Nat.sub_self, show ys.length - i = (ys.length - (i + 1)) + 1 by omega, List.replicate_succ, List.set_cons_zero, List.take_add_one, hy, List.append_assoc]
 rfl
section
variable {h h0 : AH} {Q : Value → AH → Prop} {Fa F Fo : Nat → Prop} {N : NetD} {p : List (List Int)} {g o C s t q mp bf : Nat} {cA : Option Addr} {cK : Nat} {D : Nat → Prop} {a l : Nat} {costs : List Int}
theorem cut_costs {h : AH} {E : Nat → Prop} {lo no : Nat} (bc : Bk h C (costs.map (Value.int .i64)) 2) (hC : C < h.next) (hE : E C) (hlo : lo + no ≤ costs.length) (K : Nat) : Sa cI E h (some ⟨C, lo, none⟩) no K ((costs.drop lo).take no) := by
 refine ⟨by rw [List.length_take, List.length_drop]; omega, .inr ⟨_, _, rfl⟩, fun _ => ⟨C, lo, rfl, hE, hC, fun k x hk => ⟨[.int .i64 x], fun j u hu => ?_, rfl⟩⟩⟩
 rw [List.getElem?_take] at hk
 split at hk
 ·rw [List.getElem?_drop] at hk
  match j, hu with
  | 0, hu =>
   obtain rfl := Option.some.inj hu
   show ldC h C (lo + (k * 1 + 0)) = _
   rw [ldC_bk bc, Nat.mul_one, Nat.add_zero, List.getElem?_map, hk]; rfl
 ·cases hk
theorem aNext (B : QA h0 N p g o C s t q mp bf cA cK D h) (G : GrA h0 Fa F g N) (O : OvA h0 Fo o N p) (bc : Bk h0 C (costs.map (Value.int .i64)) 2) (hC : C < h0.next) (hco : CostsOk N p costs) (hsz : N.size p < 1000000) (ha : a < N.na) (hl : N.lev p s t (N.to a) = l)
  (hK : ∀ (A4 : Option Addr) (K4 : Nat) (A5 : Option Addr) (K5 : Nat) (ol : List Nat) (pr : List Int) (D' : Nat → Prop) (h' : AH), NextR N p costs s t a ol pr → QA h0 N p g o C s t q mp bf cA cK D' h' → Sa cI (fun b => b < h0.next ∨ h.next ≤ b ∨ D b) h' A4 ol.length K4 (ints ol) → Sa cI (fun b => b < h0.next ∨ h.next ≤ b ∨ D b) h' A5 ol.length K5 pr → Mt (fun b => b = mp) h h' → (∀ b, D b → D' b) → (∀ b, D' b → D b ∨ h.next ≤ b) →
   Q (.tuple #[.slice A4 ol.length K4, .slice A5 ol.length K5]) h') :
  WC Tryz.prog 68 [.pointer (some ⟨q, 0, none⟩), .int .i64 l, .int .i64 a] h Q := by
 have hok := G.ok
 have hp := O.hp
 have hna := G.few.2
 have hto := (NetD.to_lt hok ha).1
 have hlen := hco.1
 obtain ⟨P1, P2, P3, P4, P5, P6, P7, P8, P9⟩ := B.pos
 have hp6 := hp.few
 refine w_ask_quest_next ⟨q, 0, rfl, _, ldC_of B.blk rfl, aTo (G.nw B.nw) ha ⟨_, rfl, fun hl0 => ?_, fun hl0 => ?_⟩⟩
 ·have hl0' : l = 0 := by omega
  subst hl0'
  obtain ⟨bs, hbs⟩ : ∃ bs, N.from_ (N.to a) = bs := ⟨_, rfl⟩
  refine ⟨_, ldC_of B.blk rfl, aOuts (G.nw B.nw) hto fun A1 K1 h2 s2 k2 => ⟨_, _, _, rfl, ?_⟩⟩
  have hR := nextR_arcs (costs := costs) hok ha hl
  have hbn : bs.length ≤ 1000 := by rw [← hbs]; exact Nat.le_trans (takeN_len _ _) hna
  rw [hbs] at s2 hR ⊢
  obtain ⟨ys, hys⟩ : ∃ ys, (bs.map fun b => N.turn a b) = ys := ⟨_, rfl⟩
  have hyl : ys.length = bs.length := by rw [← hys]; simp
  have z2' := k2.next
  refine ⟨by omega, fun h3 e3 => ?_⟩
  obtain ⟨k3, g3, z3⟩ := news e3
  rw [rep_one] at g3
  refine ⟨fun m x h4 => ∃ i : Nat, x = i ∧ i ≤ bs.length ∧ m = bs.length - i ∧ Bk h4 h2.next ((ys.take i ++ List.replicate (ys.length - i) 0).map (Value.int .i64)) 2 ∧ Nw h2 h4 ∧ h2.next < h4.next, bs.length, ⟨0, rfl, Nat.zero_le _, rfl, by simpa [hyl] using g3, k3, by omega⟩, ?_⟩
  rintro m x h4 ⟨i, rfl, hi, rfl, b4, k4, hlt4⟩
  have k04 := k2.trans k4
  refine ⟨fun hlt => ?_, fun hge => ?_⟩
  ·have hil : i < bs.length := by omega
   obtain ⟨b2, o2, x5, hA1, -, -, hx5, r0⟩ := (s2.nw k4).int (k := i) hil
   obtain ⟨b, hb⟩ : ∃ b, bs[i]? = some b := ⟨_, List.getElem?_eq_getElem (by omega)⟩
   have hxb : x5 = (b : Int) := by simp [ints, hb] at hx5; exact hx5.symm
   subst hxb
   have hbn' := hR.lt b (List.mem_of_getElem? hb)
   have hy : ys[i]? = some (N.turn a b) := by rw [← hys, List.getElem?_map, hb]; rfl
   refine ⟨i, rfl, b2, o2, hA1, hil, _, r0, _, ldC_of (B.next k04).blk rfl, aTurn (G.nw (B.nw.trans k04)) ha hbn' fun h5 k5 => ⟨_, rfl, hil, ?_⟩⟩
   have b5 := k5.bk hlt4 b4
   have z5 := k5.next
   have z4 := k4.next
   obtain ⟨h6, s6, b6, z6, o6⟩ := ints_st b5 (k := i) (by rw [List.length_append, List.length_take, List.length_replicate]; omega) (N.turn a b)
   rw [part_set (xs := []) hy] at b6
   exact ⟨h6, s6, _, wr_ok (by omega) (by omega), bs.length - (i + 1), by omega, i + 1, by omega, hil, rfl, b6, ⟨by omega, fun b hb => (o6 b (by omega)).trans ((k5.get b (by omega)).trans (k4.get b hb))⟩, by omega⟩
  ·obtain rfl : i = bs.length := by omega
   rw [← hyl, Nat.sub_self, List.take_length, List.replicate_zero, List.append_nil] at b4
   have := hK A1 K1 (some ⟨h2.next, 0, none⟩) (cx bs.length) bs ys D h4 (by rw [← hys]; exact hR) (B.next k04) ((s2.nw k4).mono fun b hb _ => .inr (.inl hb)) (Sa.of_ints b4 hyl (.inr (.inl z2')) hlt4) (Mt.of k04) (fun b hb => hb) (fun b hb => .inl hb)
   exact this
 ·have hl1 : 1 ≤ l := by omega
  have hll : l ≤ p.length := by rw [← hl]; exact levUp_le _ _ _ _ _
  have wl : IntKind.i64.wrap ((l : Int) - 1) = ((l - 1 : Nat) : Int) := by rw [Int.natCast_sub hl1]; exact wr_ok (by omega) (by omega)
  obtain ⟨b3, o3, A3, n3, K3, row, hcA, -, -, hrow, r0, srow⟩ := B.cells.row (k := l - 1) (by omega)
  obtain ⟨hrl, hrx⟩ := part_row hp hrow
  have hn3 : n3 = N.nv := by rw [← srow.len]; exact hrl
  subst hn3
  obtain ⟨b4, o4, x9, hA3, -, -, hx9, r1⟩ := srow.int (k := N.to a) hto
  obtain ⟨x9', hx9', x90, -⟩ := hrx (N.to a) hto
  rw [hx9] at hx9'
  obtain rfl := Option.some.inj hx9'
  obtain ⟨c, rfl⟩ := Int.eq_ofNat_of_zero_le x90
  have hc : cel p l (N.to a) = c := by rw [cel_row hrow hx9]; simp
  have hcm : c < most p l := by rw [← hc]; exact cel_most hp hl1 hll hto
  have hlne : N.lev p s t (N.to a) ≠ 0 := by omega
  obtain ⟨f, f1, f2⟩ := B.map_
  obtain ⟨ig, hig, hzg⟩ := infoG
  have hlook := f1.look (e := 99) keyG hig hzg (by kernel_rfl) (l, c) true
  have nil : ∀ (D' : Nat → Prop) (h' : AH), (a ∉ N.ins p l c ∨ N.outs p l c = []) → QA h0 N p g o C s t q mp bf cA cK D' h' → Mt (fun b => b = mp) h h' → (∀ b, D b → D' b) → (∀ b, D' b → D b ∨ h.next ≤ b) → Q (.tuple #[.slice none 0 0, .slice none 0 0]) h' := fun D' h' hn hq hm hd1 hd2 =>
   hK none 0 none 0 [] [] D' h' (nextR_none hlne (by rw [hl, hc]; exact hn)) hq ⟨rfl, .inl ⟨rfl, rfl, rfl⟩, fun h => absurd h (Nat.lt_irrefl _)⟩ ⟨rfl, .inl ⟨rfl, rfl, rfl⟩, fun h => absurd h (Nat.lt_irrefl _)⟩ hm hd1 hd2
  refine ⟨_, _, _, ldC_of B.blk rfl, _, wl, l - 1, rfl, b3, o3, hcA, by omega, _, _, _, r0, N.to a, rfl, b4, o4, hA3, hto, _, r1, _, ldC_of B.blk rfl, ?_⟩
  obtain ⟨ni, hni⟩ : ∃ ni, (N.ins p l c).length = ni := ⟨_, rfl⟩
  obtain ⟨no, hno⟩ : ∃ no, (N.outs p l c).length = no := ⟨_, rfl⟩
  have hni2 : ni ≤ 1000 := by rw [← hni]; exact Nat.le_trans (takeN_len _ _) hna
  have hno2 : no ≤ 1000 := by rw [← hno]; exact Nat.le_trans (takeN_len _ _) hna
  have hse := NetD.start_end (N := N) (p := p) (k := l) hl1 hll hcm
  unfold NetD.sz at hse
  rw [hni, hno] at hse
  have main : ∀ (h9 : AH) (D' : Nat → Prop) (A6 A7 : Option Addr) (K6 K7 : Nat), QA h0 N p g o C s t q mp bf cA cK D' h9 → Mt (fun b => b = mp) h h9 → (∀ b, D b → D' b) → (∀ b, D' b → D b ∨ h.next ≤ b) → h.next < h9.next → Bk h9 h.next [.slice A6 ni K6, .slice A7 no K7] 99 → Sa cI D' h9 A7 no K7 (ints (N.outs p l c)) → ∀ h10, a ∈ N.ins p l c → N.outs p l c ≠ [] → Nw h9 h10 →
    ∃ (A : Option Addr) (n : Nat) (K : Nat), ldC h10 h.next 1 = some (.slice A n K) ∧ ∃ x12 : Int, IntKind.i64.wrap (((N.start p l c + (N.ins p l c).idxOf a * no : Nat) : Int) + (n : Int)) = x12 ∧ ∃ (A8 : Option Addr) (n8 : Nat) (K8 : Nat), ldC h10 q (0 + 2) = some (.slice A8 n8 K8) ∧ (((n8 : Int) : Int) < x12 → Q (.tuple #[.slice none 0 0, .slice none 0 0]) h10) ∧ (¬ (((n8 : Int) : Int) < x12) → ∃ (A9 : Option Addr) (n9 : Nat) (K9 : Nat), ldC h10 h.next 1 = some (.slice A9 n9 K9) ∧ ∃ (A10 : Option Addr) (n10 : Nat) (K10 : Nat), ldC h10 q (0 + 2) = some (.slice A10 n10 K10) ∧ ∃ (A11 : Option Addr) (n11 : Nat) (K11 : Nat), ldC h10 h.next 1 = some (.slice A11 n11 K11) ∧ ∃ x13 : Int, IntKind.i64.wrap (((N.start p l c + (N.ins p l c).idxOf a * no : Nat) : Int) + (n11 : Int)) = x13 ∧ ∃ k4 : Nat, ((N.start p l c + (N.ins p l c).idxOf a * no : Nat) : Int) = (k4 : Int) ∧ ∃ k5 : Nat, x13 = (k5 : Int) ∧ ∃ (A12 : Option Addr) (n12 K12 : Nat), vSliceS Tryz.prog 2 A10 n10 K10 (some k4) (some k5) none = some (.slice A12 n12 K12) ∧ EqOk (.slice A11 n11 K11) ∧ EqOk (.slice A10 n10 K10) ∧ Q (.tuple #[.slice A9 n9 K9, .slice A12 n12 K12]) h10) := by
   intro h9 D' A6 A7 K6 K7 B9 m9 hd1 hd2 hlt9 gb so h10 hin hne k10
   have hidx := List.idxOf_lt_length_of_mem hin
   have hmul : ((N.ins p l c).idxOf a + 1) * no ≤ ni * no := Nat.mul_le_mul_right _ (by rw [← hni]; exact hidx)
   rw [Nat.succ_mul] at hmul
   have hpos : 0 < no := by rw [← hno]; cases hx : N.outs p l c with | nil => exact absurd hx hne | cons x l => simp
   obtain ⟨lo, hlo⟩ : ∃ lo, N.start p l c + (N.ins p l c).idxOf a * no = lo := ⟨_, rfl⟩
   rw [hlo]
   have wlo : IntKind.i64.wrap ((lo : Int) + (no : Int)) = ((lo + no : Nat) : Int) := by rw [Int.natCast_add]; exact wr_ok (by omega) (by omega)
   have B10 := B9.next k10
   have gb10 := k10.bk hlt9 gb
   have hsl := sl_even (P := Tryz.prog) (e := 2) (C := C) (n := N.size p) (lo := lo) (hi := lo + no) sz64 (by omega) (by omega) (.inl (by omega))
   rw [Nat.add_sub_cancel_left] at hsl
   refine ⟨_, _, _, ldC_of gb10 rfl, _, wlo, _, _, _, ldC_of B10.blk rfl, fun h => absurd h (by omega), fun _ => ⟨_, _, _, ldC_of gb10 rfl, _, _, _, ldC_of B10.blk rfl, _, _, _, ldC_of gb10 rfl, _, wlo, lo, rfl, lo + no, rfl, _, _, _, hsl, so.eqok, rfl, ?_⟩⟩
   have hR := nextR_leaps hok hp hco ha hl (by omega) hc hin
   rw [hno, hlo] at hR
   have hE : ∀ b, D' b → (b < h0.next ∨ h.next ≤ b ∨ D b) := fun b hb => (hd2 b hb).elim (fun h => .inr (.inr h)) (fun h => .inr (.inl h))
   have m10 := m9.nw k10
   have := hK A7 K7 (some ⟨C, lo, none⟩) (cx (N.size p - lo)) (N.outs p l c) _ D' h10 hR B10 (by rw [hno]; exact (so.nw k10).mono fun b hb _ => hE b hb) (by rw [hno]; exact cut_costs (B10.nw.bk hC bc) (by have := B10.nw.next; omega) (.inl hC) (by omega) _) m10 hd1 hd2
   rw [hno] at this
   exact this
  cases hf : f (l, c) with
  | some v =>
   obtain ⟨A6, K6, A7, K7, rfl, s6, s7⟩ := f2 l c v hf
   rw [hni] at s6
   rw [hno] at s7
   rw [hf, hni, hno] at hlook
   refine ⟨_, _, _, _, _, _, _, hlook, fun _ h7 e7 => ?_, fun h => Bool.noConfusion h⟩
   obtain ⟨h8, s8, k8, g8, z8⟩ := box_st (vs := [.slice A6 ni K6, .slice A7 no K7]) e7 rfl (flat2 rfl rfl)
   have B8 := B.next k8
   refine ⟨h8, s8, _, _, _, ldC_of g8 rfl, aPlace a (s6.nw k8) (takeN_asc _ _) (by omega) ⟨_, rfl, _, ldC_of B8.blk rfl, oAtF (O.nw B8.nw) hl1 hll hcm (fun h10 hn k10 => ⟨_, rfl, fun _ => nil D h10 hn (B8.next k10) (Mt.of (k8.trans k10)) (fun b hb => hb) (fun b hb => .inl hb), fun _ => ⟨fun _ => nil D h10 hn (B8.next k10) (Mt.of (k8.trans k10)) (fun b hb => hb) (fun b hb => .inl hb), fun h => absurd (show (-1 : Int) < 0 by omega) h⟩⟩) (fun h10 hin hne k10 => ⟨_, rfl, fun h => absurd h (by have := placeI_nn.2 hin; omega), fun _ => ⟨fun h => absurd h (by omega), fun _ => ?_⟩⟩)⟩⟩
   have := main h8 D A6 A7 K6 K7 B8 (Mt.of k8) (fun b hb => hb) (fun b hb => .inl hb) (by omega) g8 (s7.nw k8) h10 hin hne k10
   rw [hno]
   exact this
  | none =>
   rw [hf] at hlook
   refine ⟨none, 0, 0, none, 0, 0, _, hlook, fun h => Bool.noConfusion h, fun _ h11 e11 => ?_⟩
   obtain ⟨h12, s12, k12, g12, z12⟩ := box_st (vs := [.slice none 0 0, .slice none 0 0]) e11 rfl (flat2 rfl rfl)
   have B12 := B.next k12
   refine ⟨h12, s12, _, ldC_of B12.blk rfl, oGate (O.nw B12.nw) hl1 hll hcm fun A6 K6 A7 K7 h13 s6 s7 k13 => ⟨_, _, _, _, _, _, rfl, ?_⟩⟩
   rw [hni] at s6 ⊢
   rw [hno] at s7 ⊢
   have z13 := k13.next
   obtain ⟨h14, s14, b14, z14, o14⟩ := st_all (vs := [.slice A6 ni K6, .slice A7 no K7]) (k13.bk (by omega) g12) rfl (flat2 rfl rfl)
   have k14 : Nw h h14 := ⟨by omega, fun b hb => (o14 b (by omega)).trans ((k13.get b (by omega)).trans (k12.get b hb))⟩
   have B14 := B.next k14
   obtain ⟨h15, y1, y2, y3, y4⟩ := (f1.keep (h' := h14) (k14.get _ P8)).put (P := Tryz.prog) (e := 99) keyG (l, c) (.agg #[.slice A6 ni K6, .slice A7 no K7])
   have m15 : Mt (fun b => b = mp) h14 h15 := ⟨by omega, fun b _ hb => y4 b hb⟩
   have s6' : Sa cI (fun b => h12.next ≤ b ∧ b < h13.next) h15 A6 ni K6 (ints (N.ins p l c)) := ((s6.mono fun b hb hlt => ⟨hb, hlt⟩).keep (h' := h14) (fun b hb _ => o14 b (by omega)) (by omega)).off m15 fun b hb e => by omega
   have s7' : Sa cI (fun b => h12.next ≤ b ∧ b < h13.next) h15 A7 no K7 (ints (N.outs p l c)) := ((s7.mono fun b hb hlt => ⟨hb, hlt⟩).keep (h' := h14) (fun b hb _ => o14 b (by omega)) (by omega)).off m15 fun b hb e => by omega
   have B15 : QA h0 N p g o C s t q mp bf cA cK (fun b => D b ∨ (h12.next ≤ b ∧ b < h13.next)) h15 := by
    refine ⟨m15.is_nw B14.nw fun b hb => by omega, m15.bk (by omega) P4 B14.blk, (B14.cells.off m15 fun b hb e => (B.dlo b hb).2.2.2.1 e).mono fun b hb _ => .inl hb, ⟨_, y2, fun l' c' v hv => ?_⟩, fun b hb => ?_, by omega⟩
    ·by_cases e : (l', c') = (l, c)
     ·rw [if_pos e] at hv
      obtain rfl := Option.some.inj hv
      injection e with e1 e2
      subst e1 e2
      exact ⟨A6, K6, A7, K7, by rw [hni, hno], by rw [hni]; exact s6'.mono fun b hb _ => .inr hb, by rw [hno]; exact s7'.mono fun b hb _ => .inr hb⟩
     ·rw [if_neg e] at hv
      obtain ⟨A, K, A', L, e', x1, x2⟩ := f2 l' c' v hv
      exact ⟨A, K, A', L, e', (((x1.nw k14).off m15 fun b hb e => (B.dlo b hb).2.2.2.1 e)).mono fun b hb _ => .inl hb, (((x2.nw k14).off m15 fun b hb e => (B.dlo b hb).2.2.2.1 e)).mono fun b hb _ => .inl hb⟩
    ·rcases hb with hb | hb
     ·have := B.dlo b hb; omega
     ·omega
   have b15 := m15.bk (by omega) (by omega) b14
   have m015 : Mt (fun b => b = mp) h h15 := (Mt.of k14).then m15
   have hd1 : ∀ b, D b → (D b ∨ (h12.next ≤ b ∧ b < h13.next)) := fun b hb => .inl hb
   have hd2 : ∀ b, (D b ∨ (h12.next ≤ b ∧ b < h13.next)) → D b ∨ h.next ≤ b := fun b hb => hb.imp id fun h => by omega
   refine ⟨h14, s14, _, ldC_of B14.blk rfl, _, _, _, _, _, _, ldN_bk b14 (by simp), h15, y1, _, _, _, ldC_of b15 rfl, aPlace a s6' (takeN_asc _ _) (by omega) ⟨_, rfl, _, ldC_of B15.blk rfl, oAtF (O.nw B15.nw) hl1 hll hcm (fun h10 hn k10 => ⟨_, rfl, fun _ => nil _ h10 hn (B15.next k10) (m015.nw k10) hd1 hd2, fun _ => ⟨fun _ => nil _ h10 hn (B15.next k10) (m015.nw k10) hd1 hd2, fun h => absurd (show (-1 : Int) < 0 by omega) h⟩⟩) (fun h10 hin hne k10 => ⟨_, rfl, fun h => absurd h (by have := placeI_nn.2 hin; omega), fun _ => ⟨fun h => absurd h (by omega), fun _ => ?_⟩⟩)⟩⟩
   have := main h15 _ A6 A7 K6 K7 B15 m015 hd1 hd2 (by omega) b15 (s7'.mono fun b hb _ => .inr hb) h10 hin hne k10
   rw [hno]
   exact this
end
end Eva
end
section
open Go Go.RowKit
namespace Eva
section
variable {h h' : AH} {Fa F Fp : Nat → Prop} {g : Nat} {N : NetD} {p : List (List Int)} {Q : Value → AH → Prop} {A : Option Addr} {n K : Nat}
def arcFs (f : Nat → Nat) (i : Nat) : List Int := (List.range i).map fun a => ((f a : Nat) : Int)
theorem arcFs_succ (f : Nat → Nat) (i : Nat) : arcFs f (i + 1) = arcFs f i ++ [((f i : Nat) : Int)] := by
 unfold arcFs
 rw [List.range_succ, List.map_append]; rfl
theorem startsL_len (N : NetD) (p : List (List Int)) (k : Nat) : (N.startsL p k).length = most p k := by simp [NetD.startsL]
theorem aOverNew (G : GrA h Fa F g N) (hp : PartOk N.nv p) (hs : Sa cRows Fp h A n K p) (hfew : N.size p ≤ 10000000)
  (hK : ∀ o h', OvA h' (fun b => h.next ≤ b) o N p → Nw h h' → Q (.tuple #[.pointer (some ⟨o, 0, none⟩), .nilIface]) h') : WC Tryz.prog 118 [.pointer (some ⟨g, 0, none⟩), .agg #[.slice A n K]] h Q := by
 have hn := hs.len
 have h6 := hp.few
 have hna := G.few.2
 have hnv := G.few.1
 refine w_over_New fun h1 e1 => ?_
 obtain ⟨k1, g1, z1⟩ := news e1
 have box : ∀ {h'}, Nw h1 h' → ldN h' h.next 0 1 = some [.slice A n K] := fun a => ldN1 (ldC_of (a.bk (by omega) g1) rfl)
 refine ⟨A, n, K, box (Nw.refl _), aVerts (G.nw k1) ⟨_, rfl, box (Nw.refl _), eqok1 hs.eqok, aPartCheck (hs.nw k1) hp fun h3 k3 => ⟨none, rfl, fun _ => ⟨A, n, K, box k3, A, n, K, box k3, ?_⟩, fun t u h => by cases h⟩⟩⟩
 refine oTwin (hs.nw (k1.trans k3)) (by omega) (fun x hx => by rw [hp.rows x hx]; omega) fun A5 K5 h4 s4 k4 => ⟨_, _, _, rfl, box (k3.trans k4), eqok1 hs.eqok, ?_⟩
 have k14 := k3.trans k4
 refine aGateOf (G.nw (k1.trans k14)) hp (hs.nw (k1.trans k14)) fun A6 n6 K6 h5 s5 k5 => ⟨_, _, _, rfl, fun h6' e6 => ?_⟩
 obtain ⟨k6, g6, z6⟩ := news e6
 have k16 := (k14.trans k5).trans k6
 have z3 := k3.next
 have z4 := k4.next
 have z5 := k5.next
 have hn6 : n6 = p.length := by have := s5.len; simpa using this.symm
 refine aArcs (G.nw (k1.trans k16)) ⟨_, rfl, fun m x h8 => ∃ (i : Nat) (A1 : Option Addr) (K1 : Nat) (A2 : Option Addr) (K2 : Nat), x = i ∧ i ≤ N.na ∧ m = N.na - i ∧ Bk h8 h5.next [.slice A5 n K5, .slice A1 i K1, .slice A2 i K2, .slice A6 n6 K6, .slice none 0 0, .int .i64 0] 95 ∧
  OwnP cI h8 (ownB A1) 3 A1 i K1 (arcFs N.fr i) ∧ OwnP cI h8 (ownB A2) 3 A2 i K2 (arcFs N.to i) ∧ (∀ z, ownB A1 z → h6'.next ≤ z) ∧ (∀ z, ownB A2 z → h6'.next ≤ z) ∧ (∀ z, ownB A1 z → ¬ ownB A2 z) ∧ Mt (fun z => z = h5.next) h6' h8, N.na, ⟨0, none, 0, none, 0, rfl, Nat.zero_le _, rfl, g6, OwnP.nil _ _ _ _, OwnP.nil _ _ _ _, fun z hz => hz.elim, fun z hz => hz.elim, fun z hz => hz.elim, Mt.refl _ _⟩, ?_⟩
 rintro m x h8 ⟨i, A1, K1, A2, K2, rfl, hi, hm, b8, o1, o2, lo1, lo2, dj, m8⟩
 have z8 := m8.next
 have G8 : GrA h8 Fa F g N := (G.nw (k1.trans (k14.trans k5))).nw ((Mt.of k6).then m8 |>.is_nw (Nw.refl _) fun z hz => by omega)
 refine ⟨fun hlt => ?_, fun hge => ?_⟩
 ·have wi : IntKind.i64.wrap ((i : Int) + 1) = ((i + 1 : Nat) : Int) := by rw [Int.natCast_succ]; exact wr_ok (by omega) (by omega)
  refine ⟨_, _, _, ldC_of b8 rfl, aFrom G8 (by omega) ⟨_, rfl, ldC_of b8 rfl, o1.spot, fun h10 e10 => ?_⟩⟩
  obtain ⟨k10, g10, z10⟩ := news e10
  obtain ⟨A1', K1', h11, y1, y2, y3, y4⟩ := app_row free_cI tyI8 (o1.nw k10) (Sz.one (r := cI) (L := 2) (F := fun z => z = h8.next) g10 rfl (by omega) rfl rfl) (by omega) (by omega)
  have z11 := y3.next
  have b11 := y3.bk (by omega) (fun ho => by have := lo1 _ ho; omega) (k10.bk (by omega) b8)
  obtain ⟨h12, s12, b12, z12, q12⟩ := st_one (v := .slice A1' (i + 1) K1') b11 (o := 1) (by simp) rfl
  have m12 : Mt (fun z => z = h5.next) h11 h12 := ⟨by omega, fun z _ hn => q12 z hn⟩
  have lo1' : ∀ z, ownB A1' z → h6'.next ≤ z := fun z hz => (y4 z hz).elim (lo1 z) (fun h => by omega)
  have o1' := y2.off m12 fun z hz _ e => by have := lo1' z hz; omega
  have o2' := ((o2.nw k10).off y3 fun z hz _ ho => dj z ho hz).off m12 fun z hz _ e => by have := lo2 z hz; omega
  have m812 : Mt (fun z => z = h5.next) h6' h12 := ((m8.nw k10).trans y3 fun z hz hlt => by have := lo1 z hz; omega).then m12
  have G12 : GrA h12 Fa F g N := (G.nw (k1.trans (k14.trans k5))).nw ((Mt.of k6).then m812 |>.is_nw (Nw.refl _) fun z hz => by omega)
  refine ⟨A1', i + 1, K1', h11, y1, h12, s12, _, _, _, ldC_of b12 rfl, aTo G12 (by omega) ⟨_, rfl, ldC_of b12 rfl, o2'.spot, fun h14 e14 => ?_⟩⟩
  obtain ⟨k14', g14, z14⟩ := news e14
  obtain ⟨A2', K2', h15, x1, x2, x3, x4⟩ := app_row free_cI tyI8 (o2'.nw k14') (Sz.one (r := cI) (L := 2) (F := fun z => z = h12.next) g14 rfl (by omega) rfl rfl) (by omega) (by omega)
  have z15 := x3.next
  have b15 := x3.bk (by omega) (fun ho => by have := lo2 _ ho; omega) (k14'.bk (by omega) b12)
  obtain ⟨h16, s16, b16, z16, q16⟩ := st_one (v := .slice A2' (i + 1) K2') b15 (o := 2) (by simp) rfl
  have m16 : Mt (fun z => z = h5.next) h15 h16 := ⟨by omega, fun z _ hn => q16 z hn⟩
  have dj' : ∀ z, ownB A1' z → ¬ ownB A2 z := fun z hz ho => (y4 z hz).elim (fun h => dj z h ho) (fun h => by have := o2.own ho; omega)
  refine ⟨A2', i + 1, K2', h15, x1, h16, s16, _, wi, N.na - (i + 1), by omega, i + 1, A1', K1', A2', K2', rfl, by omega, rfl, b16, ?_, ?_, lo1', fun z hz => (x4 z hz).elim (lo2 z) (fun h => by omega), fun z hz ho => (x4 z ho).elim (fun h => dj' z hz h) (fun h => by have := o1'.own hz; omega), ?_⟩
  ·rw [arcFs_succ]
   exact ((o1'.nw k14').off x3 fun z hz _ ho => dj' z hz ho).off m16 fun z hz _ e => by have := lo1' z hz; omega
  ·rw [arcFs_succ]
   exact x2.off m16 fun z hz _ e => (x4 z hz).elim (fun h => by have := lo2 z h; omega) (fun h => by omega)
  ·exact ((m812.nw k14').trans x3 fun z hz hlt => by have := lo2 z hz; omega).then m16
 ·obtain rfl : i = N.na := by omega
  refine ⟨A6, n6, K6, ldC_of b8 rfl, fun m x h17 => ∃ (k : Nat) (D : Nat → Prop) (A7 : Option Addr) (K7 : Nat), x = k ∧ k ≤ n6 ∧ m = n6 - k ∧ Bk h17 h5.next [.slice A5 n K5, .slice A1 N.na K1, .slice A2 N.na K2, .slice A6 n6 K6, .slice A7 k K7, .int .i64 ((sumN (N.lsz p) k : Nat) : Int)] 95 ∧
   OwnP cRows h17 D 60 A7 k K7 ((List.range k).map fun j => N.startsL p (j + 1)) ∧ (∀ z, D z → h8.next ≤ z ∧ z < h17.next) ∧ Mt (fun z => z = h5.next) h8 h17, n6, ⟨0, fun _ => False, none, 0, rfl, Nat.zero_le _, rfl, by simpa [sumN] using b8, OwnP.nil _ _ _ _, fun z hz => hz.elim, Mt.refl _ _⟩, ?_⟩
  rintro m x h17 ⟨k, D, A7, K7, rfl, hk, hm, b17, o7, hD, m17⟩
  have z17 := m17.next
  have m617 := m8.then m17
  have s617 : Sa (Rc.slice Rc.gate) (fun b => h4.next ≤ b ∧ b < h5.next) h17 A6 n6 K6 ((List.range p.length).map fun j => N.gatesL p (j + 1)) := ((s5.mono fun z hz hlt => ⟨hz, hlt⟩).nw k6).off m617 fun z hz e => by omega
  refine ⟨fun hlt => ?_, fun hge => ?_⟩
  ·have hkl : k < p.length := by omega
   obtain ⟨b1, p1, A12, n12, K12, x, hA, -, hb1, hx, e1', s12⟩ := s617.row (k := k) (by omega)
   have hx2 : x = N.gatesL p (k + 1) := by simp [hkl] at hx; exact hx.symm
   subst hx2
   have hn12 : most p (k + 1) = n12 := by have := s12.len; simpa [NetD.gatesL] using this
   have hmf := most_le hp (k := k + 1) (by omega) (by omega)
   have wk : IntKind.i64.wrap ((k : Int) + 1) = ((k + 1 : Nat) : Int) := by rw [Int.natCast_succ]; exact wr_ok (by omega) (by omega)
   refine ⟨k, rfl, b1, p1, hA, by omega, A12, n12, K12, e1', by omega, fun h18 e18 => ?_⟩
   obtain ⟨k18, g18, z18⟩ := news e18
   rw [rep_one] at g18
   obtain ⟨ys, hys⟩ : ∃ ys, N.startsL p (k + 1) = ys := ⟨_, rfl⟩
   have hyl : ys.length = n12 := by rw [← hys, startsL_len, hn12]
   have hst0 : N.start p (k + 1) 0 = sumN (N.lsz p) k := by simp [NetD.start, sumN]
   refine ⟨fun m x h19 => ∃ c : Nat, x = c ∧ c ≤ n12 ∧ m = n12 - c ∧ Bk h19 h17.next ((ys.take c ++ List.replicate (ys.length - c) 0).map (Value.int .i64)) 3 ∧ Bk h19 h5.next [.slice A5 n K5, .slice A1 N.na K1, .slice A2 N.na K2, .slice A6 n6 K6, .slice A7 k K7, .int .i64 ((N.start p (k + 1) c : Nat) : Int)] 95 ∧ Mt (fun z => z = h5.next) h17 h19 ∧ h17.next < h19.next, n12, ⟨0, rfl, Nat.zero_le _, rfl, ?_, by rw [hst0]; exact k18.bk (by omega) b17, Mt.of k18, by omega⟩, ?_⟩
   ·rw [List.take_zero, List.nil_append, hyl, Nat.sub_zero, List.map_replicate]
    exact g18
   rintro m' x h19 ⟨c, rfl, hc, hm', b19, a19, m19, lt19⟩
   have z19 := m19.next
   refine ⟨fun hlt' => ?_, fun hge' => ?_⟩
   ·have hc' : c < most p (k + 1) := by omega
    obtain ⟨b2, p2, A13, n13, K13, A14, n14, K14, u, v, hA12, hF2, hb2, hy, e2, e3, s13, s14⟩ := (s12.off m19 fun z hz e => by omega).gate (k := c) (by omega)
    have hy2 : (u, v) = (ints (N.ins p (k + 1) c), ints (N.outs p (k + 1) c)) := by simp [NetD.gatesL, hc'] at hy; rw [← hy.1, ← hy.2]
    injection hy2 with q1 q2
    subst q1 q2
    have q3 : (N.ins p (k + 1) c).length = n13 := by simpa [ints] using s13.len
    have q4 : (N.outs p (k + 1) c).length = n14 := by simpa [ints] using s14.len
    refine ⟨c, rfl, b2, p2, hA12, by omega, A13, n13, K13, A14, n14, K14, ldN2 e2 e3, fun h20 e20 => ?_⟩
    obtain ⟨h21, s21, k21, g21, z21⟩ := box_st (vs := [.slice A13 n13 K13, .slice A14 n14 K14]) e20 rfl (flat2 rfl rfl)
    have a21 := k21.bk (by omega) a19
    have b21 := k21.bk (by omega) b19
    obtain ⟨h22, s22, b22, z22, q22⟩ := st_one (v := .int .i64 ((N.start p (k + 1) c : Nat) : Int)) b21 (o := 0 + c) (by simp; omega) rfl
    have a22 := (q22 _ (by omega)).trans a21
    have g22 := (q22 _ (by omega)).trans g21
    have hse := NetD.start_end (N := N) (k := k + 1) (c := c) (by omega) (by omega) hc'
    have hsz : N.sz p (k + 1) c = n13 * n14 := by unfold NetD.sz; rw [q3, q4]
    rw [hsz] at hse
    obtain ⟨t, ht⟩ : ∃ t, n13 * n14 = t := ⟨_, rfl⟩
    rw [ht] at hse hsz
    have w1 : IntKind.i64.wrap ((n13 : Int) * (n14 : Int)) = (t : Int) := by rw [← Int.natCast_mul, ht]; exact wr_ok (by omega) (by omega)
    have hnx : N.start p (k + 1) (c + 1) = N.start p (k + 1) c + t := by rw [NetD.start_cell, hsz]
    have w2 : IntKind.i64.wrap (((N.start p (k + 1) c : Nat) : Int) + (t : Int)) = ((N.start p (k + 1) (c + 1) : Nat) : Int) := by rw [hnx, Int.natCast_add]; exact wr_ok (by omega) (by omega)
    have wc : IntKind.i64.wrap ((c : Int) + 1) = ((c + 1 : Nat) : Int) := by rw [Int.natCast_succ]; exact wr_ok (by omega) (by omega)
    obtain ⟨h23, s23, b23, z23, q23⟩ := st_one (v := .int .i64 ((N.start p (k + 1) (c + 1) : Nat) : Int)) a22 (o := 5) (by simp) rfl
    refine ⟨h21, s21, _, ldC_of a21 rfl, by omega, h22, s22, _, ldC_of a22 rfl, _, _, _, ldC_of g22 rfl, _, _, _, ldC_of g22 rfl, _, w1, _, w2, h23, s23, _, wc, n12 - (c + 1), by omega, c + 1, rfl, by omega, rfl, ?_, b23, ?_, by omega⟩
    ·rw [Nat.zero_add, ← List.map_set] at b22
     have hyc : ys[c]? = some ((N.start p (k + 1) c : Nat) : Int) := by rw [← hys]; simp [NetD.startsL, hc']
     have hps := part_set (xs := ys) hyc
     rw [hps] at b22
     exact (q23 _ (by omega)).trans b22
    ·exact ⟨by omega, fun z hz hn => (q23 z hn).trans ((q22 z (by omega)).trans ((k21.get z (by omega)).trans (m19.get z hz hn)))⟩
   ·obtain rfl : c = n12 := by omega
    rw [List.take_of_length_le (by omega), hyl, Nat.sub_self, List.replicate_zero, List.append_nil] at b19
    refine ⟨_, _, _, ldC_of a19 rfl, fun h24 e24 => ?_⟩
    obtain ⟨k24, g24, z24⟩ := news e24
    have o19 := (o7.off m19 fun z hz _ e => by have := (hD z hz).1; omega).nw k24
    have hz : Sz cRows (fun z => z = h17.next ∨ z = h19.next) h24 (some ⟨h19.next, 0, none⟩) 1 2 [ys] := Sz.one g24 (.inr rfl) (by omega) rfl ⟨some ⟨h17.next, 0, none⟩, c, cx c, rfl, Sa.of_ints (k24.bk (by omega) b19) hyl (.inl rfl) (by omega)⟩
    obtain ⟨A18, K18, h25, y1, y2, y3, y4⟩ := app_rows (r := cRows) (bytes := 24) tyIs o19 hz (fun b hb ho => by have := (hD b (o7.lt ho).1).2; omega) (by omega) (by omega)
    have z25 := y3.next
    have nO : ¬ ownB A7 h5.next := fun ho => by have := (hD _ (o7.lt ho).1).1; omega
    have b25 := y3.bk (by omega) nO (k24.bk (by omega) a19)
    obtain ⟨h26, s26, b26, z26, q26⟩ := st_one (v := .slice A18 (k + 1) K18) b25 (o := 4) (by simp) rfl
    have hse : N.start p (k + 1) c = sumN (N.lsz p) (k + 1) := by
     rw [← hn12]
     unfold NetD.start
     rw [Nat.add_sub_cancel]
     rfl
    refine ⟨A18, k + 1, K18, h25, y1, h26, s26, _, wk, n6 - (k + 1), by omega, k + 1, fun z => (D z ∨ (z = h17.next ∨ z = h19.next) ∨ z = h24.next) ∧ z < h25.next, A18, K18, rfl, by omega, rfl, by rw [← hse]; exact b26, ?_, fun z hz => ?_, ?_⟩
    ·rw [List.range_succ, List.map_append, List.map_singleton, hys]
     refine (y2.mono (D' := fun z => (D z ∨ (z = h17.next ∨ z = h19.next) ∨ z = h24.next) ∧ z < h25.next) fun z hz hlt => ⟨hz, hlt⟩).keep (fun z hz _ => q26 z ?_) (by omega)
     rcases hz.1 with h9 | h9 | h9
     ·have := (hD z h9).1; omega
     ·omega
     ·omega
    ·rcases hz.1 with h9 | h9 | h9
     ·have := hD z h9; omega
     ·omega
     ·omega
    ·exact ((m17.then m19).nw k24).trans y3 (fun z hz hlt => by have := (hD z (o7.lt hz).1).1; omega) |>.then ⟨by omega, fun z _ hn => q26 z hn⟩
  ·obtain rfl : k = n6 := by omega
   subst hn6
   have k117 : Nw h1 h17 := ((Mt.of k6).then m617).is_nw (k14.trans k5) fun z hz => by omega
   have kk := k1.trans k117
   have z117 := k117.next
   refine hK h5.next h17 ⟨⟨by omega, by omega⟩, ⟨_, _, _, ldC_of b17 rfl, ?_⟩, ⟨_, _, _, ldC_of b17 rfl, ?_⟩, ⟨_, _, _, ldC_of b17 rfl, ?_⟩, ⟨_, _, _, ldC_of b17 rfl, s617.mono fun z hz _ => by omega⟩, ⟨_, _, _, ldC_of b17 rfl, o7.sa.mono fun z hz _ => by have := (hD z hz).1; omega⟩, ldC_of b17 rfl, hp, hfew, G.ok, ⟨hnv, hna⟩⟩ kk
   ·exact ((((s4.mono fun z hz hlt => (⟨hz, hlt⟩ : h3.next ≤ z ∧ z < h4.next)).nw (k5.trans k6)).off m617 fun z hz e => by omega)).mono fun z hz _ => by omega
   ·exact (o1.sa.off m17 fun z hz e => by have := lo1 z hz; omega).mono fun z hz _ => by have := lo1 z hz; omega
   ·exact (o2.sa.off m17 fun z hz e => by have := lo2 z hz; omega).mono fun z hz _ => by have := lo2 z hz; omega
end
end Eva
end
section
open Go Go.RowKit
theorem sumN_add (f g : Nat → Nat) : ∀ n, sumN (fun i => f i + g i) n = sumN f n + sumN g n
 | 0 => rfl
 | n + 1 => by
  show sumN (fun i => f i + g i) n + (f n + g n) = sumN f n + f n + (sumN g n + g n)
  rw [sumN_add f g n]; omega
theorem sumN_lone {f : Nat → Bool} {c0 : Nat} (h : ∀ c, f c = true → c = c0) : ∀ n, sumN (fun c => if f c then 1 else 0) n ≤ if c0 < n then 1 else 0
 | 0 => by simp [sumN]
 | n + 1 => by
  have ih := sumN_lone h n
  show sumN (fun c => if f c then 1 else 0) n + (if f n then 1 else 0) ≤ _
  by_cases e : f n = true
  ·have := h n e
   subst this
   rw [if_neg (Nat.lt_irrefl _)] at ih
   simp [e]
   omega
  ·simp [e]
   by_cases h1 : c0 < n
   ·rw [if_pos h1] at ih
    rw [if_pos (by omega)]
    simpa using ih
   ·rw [if_neg h1] at ih
    have : sumN (fun c => if f c = true then 1 else 0) n ≤ 0 := ih
    split <;> omega
theorem sumN_take {f : Nat → Nat → Bool} {q : Nat → Nat} (h : ∀ c a, f c a = true → c = q a) (m : Nat) : ∀ n, sumN (fun c => (takeN (f c) n).length) m ≤ n
 | 0 => by
  have : ∀ m, sumN (fun c => (takeN (f c) 0).length) m = 0 := fun m => by
   induction m with
   | zero => rfl
   | succ m ih => show sumN _ m + (takeN (f m) 0).length = 0; rw [ih]; rfl
  rw [this]; exact Nat.le_refl _
 | n + 1 => by
  have e : (fun c => (takeN (f c) (n + 1)).length) = fun c => (takeN (f c) n).length + if f c n then 1 else 0 := by
   funext c
   rw [takeN_succ]
   split <;> simp
  rw [e, sumN_add]
  have h1 := sumN_take h m n
  have h2 := sumN_lone (f := fun c => f c n) (fun c => h c n) m
  have h3 : (if q n < m then 1 else 0) ≤ 1 := by split <;> omega
  omega
theorem size_few {N : NetD} {p : List (List Int)} (hna : N.na ≤ 300) (hp : p.length ≤ 6) : N.size p < 1000000 := by
 have h1 : ∀ j, N.lsz p j ≤ 90000 := fun j => by
  unfold NetD.lsz
  have h2 : ∀ m, sumN (N.sz p (j + 1)) m ≤ sumN (fun c => (N.ins p (j + 1) c).length) m * 300 := fun m => by
   induction m with
   | zero => simp [sumN]
   | succ m ih =>
    show sumN (N.sz p (j + 1)) m + N.sz p (j + 1) m ≤ (sumN _ m + (N.ins p (j + 1) m).length) * 300
    rw [Nat.add_mul]
    have : N.sz p (j + 1) m ≤ (N.ins p (j + 1) m).length * 300 := Nat.mul_le_mul_left _ (Nat.le_trans (takeN_len _ _) hna)
    omega
  have h3 : sumN (fun c => (N.ins p (j + 1) c).length) (most p (j + 1)) ≤ N.na := sumN_take (f := fun c a => N.insB p (j + 1) c a) (q := fun a => cel p (j + 1) (N.to a)) (fun c a h => by simp [NetD.insB] at h; exact h.1.symm) _ _
  have h5 := h2 (most p (j + 1))
  have h6 : sumN (fun c => (N.ins p (j + 1) c).length) (most p (j + 1)) * 300 ≤ 300 * 300 := Nat.mul_le_mul_right _ (Nat.le_trans h3 hna)
  exact Nat.le_trans h5 h6
 have h4 := sumN_le h1 p.length
 unfold NetD.size
 have : p.length * (90000) ≤ 6 * (90000) := Nat.mul_le_mul_right _ hp
 omega
namespace Eva
section
variable {h h' : AH} {F G : Nat → Prop} {Q : Value → AH → Prop} {A Av Aa At Ap : Option Addr} {n K nv Kv na Ka nt Kt np Kp : Nat} {N : NetD} {p : List (List Int)}
theorem aMade8 (Z : NetZ h F Av nv Kv Aa na Ka At nt Kt N) (hf : FewN N) (ok : N.Ok) (hK : ∀ g h' Fa F, GrA h' Fa F g N → (∀ z, Fa z → h.next ≤ z) → (∀ z, F z → h.next ≤ z ∧ ¬ Fa z) → Nw h h' → Q (.pointer (some ⟨g, 0, none⟩)) h') :
  WC Tryz.prog 54 [.agg #[.slice Av nv Kv, .slice Aa na Ka, .slice At nt Kt]] h Q := by
 have lv := Z.vs.len
 have la := Z.xa.len
 have lt := Z.ts.len
 obtain ⟨f1, f2, f3, f4⟩ := hf
 refine w_law8_Made fun h1 e1 => ?_
 obtain ⟨k1, g1, z1⟩ := news e1
 have Z1 := Z.nw k1
 refine ⟨_, _, _, _, _, _, _, _, _, ldN3' (ldC_of g1 rfl) (ldC_of g1 rfl) (ldC_of g1 rfl), aTo3 Z1.vs Z1.xa Z1.ts (by omega) (by omega) (by omega) (fun t ht => by have := f4 t ht; omega) fun A1 K1 A2 K2 A3 K3 h2 s1 s2 s3 k2 => ⟨_, _, _, _, _, _, _, _, _, rfl, ?_⟩⟩
 have z2 := k2.next
 exact aGraphNew s1 s2 s3 ok (by omega) fun g h3 Fa F' G lo hi k3 => ⟨_, none, rfl, fun _ => hK g h3 Fa F' G (fun z hz => by have := lo z hz; omega) (fun z hz => ⟨by have := (hi z hz).1; omega, (hi z hz).2⟩) ((k1.trans k2).trans k3), fun t u h => by cases h⟩
theorem aMade17 (Z : NetZ h F Av nv Kv Aa na Ka At nt Kt N) (hf : FewN N) (ok : N.Ok) (hs : Sz (Rc.sliceZ cI) G h Ap np Kp p) (hp : PartOk N.nv p) (hK : ∀ o h', OvA h' (fun z => h.next ≤ z) o N p → Nw h h' → Q (.pointer (some ⟨o, 0, none⟩)) h') :
  WC Tryz.prog 55 [.agg #[.slice Av nv Kv, .slice Aa na Ka, .slice At nt Kt], .agg #[.slice Ap np Kp]] h Q := by
 have ln := hs.len
 have h6 := hp.few
 have hnv := hp.nv_
 have hsz := size_few (N := N) (p := p) hf.2.1 h6
 refine w_law17_Made fun h1 e1 h2 e2 => ?_
 obtain ⟨k1, g1, z1⟩ := news e1
 obtain ⟨k2, g2, z2⟩ := news e2
 have k12 := k1.trans k2
 have g12 := k2.bk (by omega) g1
 refine ⟨_, _, _, _, _, _, _, _, _, ldN3' (ldC_of g12 rfl) (ldC_of g12 rfl) (ldC_of g12 rfl), aMade8 (Z.nw k12) hf ok fun g h3 Fa F' G3 lo hi k3 => ⟨_, rfl, (fun h => by cases h), fun _ => ⟨g, 0, rfl, _, _, _, ldN1 (ldC_of (k3.bk (by omega) g2) rfl), ?_⟩⟩⟩
 have k13 := k12.trans k3
 refine aTo13 (hs.nw k13) (by omega) (fun x hx => by rw [hp.rows x hx]; omega) fun A' K' h4 s4 k4 => ⟨_, _, _, rfl, ?_⟩
 have z4 := (k13.trans k4).next
 refine aOverNew (G3.nw k4) hp s4 (by omega) fun o h5 O k5 => ⟨_, none, rfl, fun _ => hK o h5 ?_ ((k13.trans k4).trans k5), fun t u h => by cases h⟩
 obtain ⟨⟨w1, w2⟩, ⟨a1, a2, a3, a4, a5⟩, ⟨b1, b2, b3, b4, b5⟩, ⟨c1, c2, c3, c4, c5⟩, ⟨d1, d2, d3, d4, d5⟩, ⟨e1, e2, e3, e4, e5⟩, q1, q2, q3, q4, q5⟩ := O
 exact ⟨⟨by omega, w2⟩, ⟨a1, a2, a3, a4, a5.mono fun z hz _ => by omega⟩, ⟨b1, b2, b3, b4, b5.mono fun z hz _ => by omega⟩, ⟨c1, c2, c3, c4, c5.mono fun z hz _ => by omega⟩, ⟨d1, d2, d3, d4, d5.mono fun z hz _ => by omega⟩, ⟨e1, e2, e3, e4, e5.mono fun z hz _ => by omega⟩, q1, q2, q3, q4, q5⟩
theorem eqok3 {a b c : Value} (ha : EqOkN 5 a) (hb : EqOkN 5 b) (hc : EqOkN 5 c) : EqOk (.agg #[a, b, c]) := by
 intro v hv
 have hv' : v = a ∨ v = b ∨ v = c := by simpa using hv
 rcases hv' with rfl | rfl | rfl
 ·exact ha
 ·exact hb
 ·exact hc
theorem Sz.ok5 {α : Type} {r : Rc α} {F : Nat → Prop} {xs : List α} (hs : Sz r F h A n K xs) (hn : 0 < n) : EqOkN 5 (.slice A n K) := by
 obtain ⟨b, o, rfl, -⟩ := hs.at_ hn
 rfl
theorem eqok1' {a : Value} (ha : EqOkN 5 a) : EqOk (.agg #[a]) := by
 intro v hv
 have hv' : v = a := by simpa using hv
 subst hv'
 exact ha
structure RdyA (h0 h : AH) (g o C : Nat) (costs : List Int) (N : NetD) (p : List (List Int)) : Prop where
 gr : ∃ Fa F, GrA h Fa F g N ∧ (∀ z, Fa z → h0.next ≤ z) ∧ (∀ z, F z → h0.next ≤ z ∧ ¬ Fa z)
 ov : OvA h (fun z => h0.next ≤ z) o N p
 cs : Bk h C (costs.map (Value.int .i64)) 2
 cp : h0.next ≤ C ∧ C < h.next
 ok : CostsOk N p costs
theorem aReady21 (Z : NetZ h F Av nv Kv Aa na Ka At nt Kt N) (hf : FewN N) (ok : N.Ok) (hna : 0 < na) (hs : Sz (Rc.sliceZ cI) G h Ap np Kp p) (hp : PartOk N.nv p)
  (hK : ∀ g o C costs h', RdyA h h' g o C costs N p → Nw h h' → Q (.tuple #[.pointer (some ⟨g, 0, none⟩), .pointer (some ⟨o, 0, none⟩), .slice (some ⟨C, 0, none⟩) (N.size p) (cx (N.size p)), .bool true]) h') :
  WC Tryz.prog 23 [.agg #[.slice Av nv Kv, .slice Aa na Ka, .slice At nt Kt], .agg #[.slice Ap np Kp]] h Q := by
 have lv := Z.vs.len
 have la := Z.xa.len
 have lt := Z.ts.len
 have ln := hs.len
 have h1p := hp.some_
 have hto := NetD.to_lt (N := N) ok (a := 0) (by show 0 < N.xa.length; omega)
 have hnv : 0 < nv := by have := hto.1; unfold NetD.nv at this; omega
 have hnt : 0 < nt := by
  have hv : N.vs[0]? = some (N.vs[0]'(by omega)) := List.getElem?_eq_getElem _
  have := ok.verts_ _ (List.mem_of_getElem? hv)
  omega
 have hsz := size_few (N := N) (p := p) hf.2.1 hp.few
 refine w_law21_Ready fun h1 e1 h2 e2 => ?_
 obtain ⟨k1, g1, z1⟩ := news e1
 obtain ⟨k2, g2, z2⟩ := news e2
 have k12 := k1.trans k2
 have g12 := k2.bk (by omega) g1
 have bN : ∀ {h'}, Nw h2 h' → ldN h' h.next 0 3 = some [.slice Av nv Kv, .slice Aa na Ka, .slice At nt Kt] := fun a => ldN3' (ldC_of (a.bk (by omega) g12) rfl) (ldC_of (a.bk (by omega) g12) rfl) (ldC_of (a.bk (by omega) g12) rfl)
 have bP : ∀ {h'}, Nw h2 h' → ldN h' h1.next 0 1 = some [.slice Ap np Kp] := fun a => ldN1 (ldC_of (a.bk (by omega) g2) rfl)
 refine ⟨_, _, _, _, _, _, _, _, _, bN (Nw.refl _), _, _, _, _, _, _, _, _, _, bN (Nw.refl _), _, _, _, bP (Nw.refl _), aMade8 (Z.nw k12) hf ok fun g h3 Fa F' G3 lo hi k3 => ⟨_, rfl, bP k3, eqok1' (hs.ok5 (by omega)), bN k3, eqok3 (Z.vs.ok5 hnv) (Z.xa.ok5 hna) (Z.ts.ok5 hnt), ?_⟩⟩
 have k13 := k12.trans k3
 refine aMade17 (Z.nw k13) hf ok (hs.nw k13) hp fun o h4 O k4 => ⟨_, rfl, (fun h => by cases h), fun _ => ⟨g, 0, rfl, (fun h => by cases h), fun _ => ⟨o, 0, rfl, ?_⟩⟩⟩
 have z4 := (k13.trans k4).next
 have z12 := k12.next
 have z13 := k13.next
 refine aAll (G3.nw k4) hf.2.1 O hsz fun C costs h5 b5 c1 c2 hco hnn k5 => ⟨_, _, _, rfl, hK g o C costs h5 ⟨⟨Fa, F', (G3.nw k4).nw k5, fun z hz => by have := lo z hz; omega, fun z hz => ⟨by have := (hi z hz).1; omega, (hi z hz).2⟩⟩, ?_, b5, ⟨by omega, c2⟩, hco⟩ ((k13.trans k4).trans k5)⟩
 obtain ⟨⟨w1, w2⟩, ⟨a1, a2, a3, a4, a5⟩, ⟨b1, b2, b3, b4, b5⟩, ⟨c1, c2, c3, c4, c5⟩, ⟨d1, d2, d3, d4, d5⟩, ⟨e1, e2, e3, e4, e5⟩, q1, q2, q3, q4, q5⟩ := O.nw k5
 exact ⟨⟨by omega, w2⟩, ⟨a1, a2, a3, a4, a5.mono fun z hz _ => by omega⟩, ⟨b1, b2, b3, b4, b5.mono fun z hz _ => by omega⟩, ⟨c1, c2, c3, c4, c5.mono fun z hz _ => by omega⟩, ⟨d1, d2, d3, d4, d5.mono fun z hz _ => by omega⟩, ⟨e1, e2, e3, e4, e5.mono fun z hz _ => by omega⟩, q1, q2, q3, q4, q5⟩
theorem aReady0 (Z : NetZ h F Av nv Kv Aa na Ka At nt Kt N) (hf : FewN N) (ok : N.Ok) (hna : 0 < na) (hs : Sz (Rc.sliceZ cI) G h Ap np Kp p) (hp : PartOk N.nv p)
  (hK : ∀ g o C costs h', RdyA h h' g o C costs N p → Nw h h' → Q (.tuple #[.pointer (some ⟨g, 0, none⟩), .pointer (some ⟨o, 0, none⟩), .slice (some ⟨C, 0, none⟩) (N.size p) (cx (N.size p)), .bool true]) h') :
  WC Tryz.prog 8 [.agg #[.slice Av nv Kv, .slice Aa na Ka, .slice At nt Kt], .agg #[.slice Ap np Kp], .slice none 0 0] h Q := by
 refine w_top_ready fun h1 e1 h2 e2 => ?_
 obtain ⟨k1, g1, z1⟩ := news e1
 obtain ⟨k2, g2, z2⟩ := news e2
 have k12 := k1.trans k2
 have z12 := k12.next
 have g12 := k2.bk (by omega) g1
 refine ⟨_, _, _, _, _, _, _, _, _, ldN3' (ldC_of g12 rfl) (ldC_of g12 rfl) (ldC_of g12 rfl), _, _, _, ldN1 (ldC_of g2 rfl), aReady21 (Z.nw k12) hf ok hna (hs.nw k12) hp fun g o C costs h3 R k3 => ⟨_, _, _, _, _, _, rfl, fun _ => ?_, fun h => Bool.noConfusion h⟩⟩
 refine ⟨fun m A n K x h4 => A = some ⟨C, 0, none⟩ ∧ n = N.size p ∧ K = cx (N.size p) ∧ x = 0 ∧ h4 = h3, 0, ⟨rfl, rfl, rfl, rfl, rfl⟩, ?_⟩
 rintro m A n K x h4 ⟨rfl, rfl, rfl, rfl, rfl⟩
 refine ⟨fun h => absurd h (by decide), fun _ => hK g o C costs h4 ?_ (k12.trans k3)⟩
 obtain ⟨⟨Fa, F', G4, lo, hi⟩, O, cs, cp, co⟩ := R
 refine ⟨⟨Fa, F', G4, fun z hz => by have := lo z hz; omega, fun z hz => ⟨by have := (hi z hz).1; omega, (hi z hz).2⟩⟩, ?_, cs, ⟨by omega, cp.2⟩, co⟩
 obtain ⟨⟨w1, w2⟩, ⟨a1, a2, a3, a4, a5⟩, ⟨b1, b2, b3, b4, b5⟩, ⟨c1, c2, c3, c4, c5⟩, ⟨d1, d2, d3, d4, d5⟩, ⟨e1, e2, e3, e4, e5⟩, q1, q2, q3, q4, q5⟩ := O
 exact ⟨⟨by omega, w2⟩, ⟨a1, a2, a3, a4, a5.mono fun z hz _ => by omega⟩, ⟨b1, b2, b3, b4, b5.mono fun z hz _ => by omega⟩, ⟨c1, c2, c3, c4, c5.mono fun z hz _ => by omega⟩, ⟨d1, d2, d3, d4, d5.mono fun z hz _ => by omega⟩, ⟨e1, e2, e3, e4, e5.mono fun z hz _ => by omega⟩, q1, q2, q3, q4, q5⟩
end
end Eva
end
section
open Go Go.RowKit
namespace Eva
section
variable {h h' : AH} {F G : Nat → Prop} {Q : Value → AH → Prop} {A Av Aa At Ap : Option Addr} {n K nv Kv na Ka nt Kt np Kp : Nat} {N : NetD} {p : List (List Int)}
theorem Sz.ok6 {α : Type} {r : Rc α} {F : Nat → Prop} {xs : List α} (hs : Sz r F h A n K xs) (hn : 0 < n) : EqOk (.slice A n K) := by
 obtain ⟨b, o, rfl, -⟩ := hs.at_ hn
 rfl
theorem aCopyNet (Z0 : NetZ h F Av nv Kv Aa na Ka At nt Kt N) (hf : FewN N) (hna : 0 < na)
  (hK : ∀ A1 K1 A2 K2 A3 K3 D h', OwnP cTri h' (ownB A1) 109 A1 nv K1 N.vs → OwnP cTri h' (ownB A2) 35 A2 na K2 N.xa → OwnP cTab h' D 38 A3 nt K3 N.ts → (∀ z, ownB A1 z → h.next ≤ z ∧ ¬ ownB A2 z ∧ ¬ D z) → (∀ z, ownB A2 z → h.next ≤ z ∧ ¬ D z) → (∀ z, D z → h.next ≤ z) → Nw h h' → Q (.agg #[.slice A1 nv K1, .slice A2 na K2, .slice A3 nt K3]) h') :
  WC Tryz.prog 6 [.agg #[.slice Av nv Kv, .slice Aa na Ka, .slice At nt Kt]] h Q := by
 have Z := Z0.old
 have lv := Z.vs.len
 have la := Z.xa.len
 have lt := Z.ts.len
 obtain ⟨f1, f2, f3, f4⟩ := hf
 refine w_ref6_CopyNet fun h1 e1 h2 e2 h3 e3 => ?_
 obtain ⟨k1, g1, z1⟩ := news e1
 obtain ⟨k2, g2, z2⟩ := news e2
 obtain ⟨k3, g3, z3⟩ := news e3
 refine ⟨_, _, _, ldC_of ((k2.trans k3).bk (by omega) g1) rfl, fun h4 e4 => ?_⟩
 obtain ⟨k4, g4, z4⟩ := news e4
 refine ⟨_, _, _, ldC_of (((k2.trans k3).trans k4).bk (by omega) g1) rfl, fun h5 e5 => ?_⟩
 obtain ⟨k5, g5, z5⟩ := news e5
 have k25 := ((k2.trans k3).trans k4).trans k5
 have k15 := k1.trans k25
 obtain ⟨A6, K6, h6, x1, x2, x3, x4⟩ := cloneZ (r := cTri) (bytes := 24) (free_tri _ _ _) (by kernel_rfl) Z.vs (by omega) (by omega) k15 ((k4.trans k5).bk (by omega) g3) (by omega) (by omega)
 have z6 := x3.next
 have k16 : Nw h h6 := x3.is_nw k15 fun z hz => by omega
 have g16 := x3.bk (by omega) (by omega) (k25.bk (by omega) g1)
 obtain ⟨A7, K7, h7, y1, y2, y3, y4⟩ := cloneZ (r := cTri) (bytes := 24) (free_tri _ _ _) (by kernel_rfl) Z.xa (by omega) (by omega) k16 (x3.bk (by omega) (by omega) (k5.bk (by omega) g4)) (by omega) (by omega)
 have z7 := y3.next
 obtain ⟨h8, s8, b8, z8, o8⟩ := st_all (vs := [.slice A6 nv K6, .slice A7 na K7, .slice none 0 0]) (y3.bk (by omega) (by omega) (x3.bk (by omega) (by omega) g5)) rfl (by simp [flat])
 have m8 : Mt (fun z => z = h4.next) h7 h8 := ⟨by omega, fun z _ hn => o8 z hn⟩
 have lo6 : ∀ z, ownB A6 z → h.next ≤ z ∧ z ≠ h4.next ∧ z ≠ h1.next ∧ z ≠ h3.next ∧ z < h6.next := fun z hz => by rcases x4 z hz with h | h <;> omega
 have lo7 : ∀ z, ownB A7 z → h.next ≤ z ∧ z ≠ h4.next ∧ z ≠ h1.next ∧ z < h7.next ∧ (z = h3.next ∨ h6.next ≤ z) := fun z hz => by rcases y4 z hz with h | h <;> omega
 have v8 : OwnP cTri h8 (ownB A6) 109 A6 nv K6 N.vs := (x2.off y3 fun z hz _ e => (lo6 z hz).2.2.2.1 e).off m8 fun z hz _ e => (lo6 z hz).2.1 e
 have a8 : OwnP cTri h8 (ownB A7) 35 A7 na K7 N.xa := y2.off m8 fun z hz _ e => (lo7 z hz).2.1 e
 have k18 : Nw h h8 := m8.is_nw (y3.is_nw k16 fun z hz => by omega) fun z hz => by omega
 have g18 := m8.bk (by omega) (by omega) (y3.bk (by omega) (by omega) g16)
 have g28 : Bk h8 h1.next [.slice none 0 0, .slice none 0 0, .slice none 0 0] 26 := m8.bk (by omega) (by omega) (y3.bk (by omega) (by omega) (x3.bk (by omega) (by omega) (((k3.trans k4).trans k5).bk (by omega) g2)))
 refine ⟨A6, nv, K6, h6, x1, ldC_of g16 rfl, Z.xa.ok6 hna, A7, na, K7, h7, y1, h8, s8, fun m x h12 => ∃ (l : Nat) (D : Nat → Prop) (A3 : Option Addr) (K3 : Nat), x = l ∧ l ≤ nt ∧ m = nt - l ∧ Bk h12 h4.next [.slice A6 nv K6, .slice A7 na K7, .slice A3 l K3] 26 ∧ OwnP cTab h12 D 38 A3 l K3 (N.ts.take l) ∧ (∀ z, D z → h8.next ≤ z ∧ z < h12.next) ∧ Mt (fun z => z = h4.next) h8 h12, nt, ⟨0, fun _ => False, none, 0, rfl, Nat.zero_le _, rfl, b8, OwnP.nil _ _ _ _, fun z hz => hz.elim, Mt.refl _ _⟩, ?_⟩
 rintro m3 x h12 ⟨l, D, A3, K3, rfl, hl, hm3, b12, o3, hD, m12⟩
 have z12 := m12.next
 have k112 : Nw h h12 := m12.is_nw k18 fun z hz => by omega
 have g112 := m12.bk (by omega) (by omega) g18
 have g212 := m12.bk (by omega) (by omega) g28
 refine ⟨_, _, _, ldC_of g112 rfl, fun hlt => ?_, fun hge3 => ?_⟩
 ·obtain ⟨b', o', p', q', A', n', K', zs, hA', -, -, htt, f0, f1', f2', sz⟩ := (Z.nw k112).ts.tableZ (k := l) (by omega)
  have hcc := f4 _ (List.mem_of_getElem? htt)
  have hzl := sz.len
  simp only at hcc
  refine ⟨_, _, _, ldC_of g112 rfl, l, rfl, b', o', hA', by omega, _, _, _, _, _, ldN3' f0 f1' f2', fun h10 e10 => ?_⟩
  obtain ⟨h11, s11, k11, g11, z11⟩ := box_st (vs := [.int .i64 p', .int .i64 q', .slice A' n' K']) e10 rfl (by simp [flat])
  have b11 := k11.bk (by omega) b12
  refine ⟨h11, s11, _, _, _, ldC_of b11 rfl, p', ldC_of g11 rfl, q', ldC_of g11 rfl, fun h12' e12 => ?_⟩
  obtain ⟨k12, g12, z12'⟩ := news e12
  obtain ⟨A13, K13, h13, w1, w2, w3, w4⟩ := cloneZ (r := cI) (bytes := 8) (t := 2) free_cI (by kernel_rfl) sz (by omega) (by omega) (k11.trans k12) g12 (by omega) (by omega)
  have z13 := w3.next
  have b13 := w3.bk (by omega) (by omega) (k12.bk (by omega) b11)
  have g13 := w3.bk (by omega) (by omega) (k12.bk (by omega) g11)
  refine ⟨_, _, _, ldC_of (k12.bk (by omega) g11) rfl, A13, n', K13, h13, w1, ldC_of g13 rfl, ldC_of g13 rfl, ldC_of b13 rfl, o3.spot, fun h14 e14 => ?_⟩
  obtain ⟨k14, g14, z14⟩ := news e14
  have lo13 : ∀ z, ownB A13 z → h12.next ≤ z ∧ z < h13.next := fun z hz => by rcases w4 z hz with h | h <;> omega
  have hz : Sz cTab (fun z => h12.next ≤ z ∧ z < h14.next) h14 (some ⟨h13.next, 0, none⟩) 1 2 [(p', q', zs)] := Sz.one g14 ⟨by omega, by omega⟩ (by omega) rfl ⟨A13, n', K13, rfl, (w2.nw k14).sa.mono fun z hz hlt => ⟨(lo13 z hz).1, hlt⟩⟩
  have o3' := (((o3.nw k11).nw k12).off w3 fun z hz _ e => by have := (hD z hz).2; omega).nw k14
  obtain ⟨A21, K21, h15, u1, u2, u3, u4⟩ := app_rows (r := cTab) (bytes := 40) (by kernel_rfl) o3' hz (fun b hb ho => by have := (hD b (o3.lt ho).1).2; omega) (by omega) (by omega)
  have z15 := u3.next
  have nO : ¬ ownB A3 h4.next := fun ho => by have := (hD _ (o3.lt ho).1).1; omega
  obtain ⟨h16, s16, b16, z16, o16⟩ := st_one (v := .slice A21 (l + 1) K21) (u3.bk (by omega) nO (k14.bk (by omega) b13)) (o := 2) (by simp) rfl
  have m16 : Mt (fun z => z = h4.next) h15 h16 := ⟨by omega, fun z _ hn => o16 z hn⟩
  refine ⟨A21, l + 1, K21, h15, u1, h16, s16, _, wrS (by omega), nt - (l + 1), by omega, l + 1, fun z => (D z ∨ (h12.next ≤ z ∧ z < h14.next) ∨ z = h14.next) ∧ z < h15.next, A21, K21, rfl, by omega, rfl, b16, ?_, fun z hz => ?_, ((((m12.nw k11).nw k12).trans w3 fun z hz hlt => by omega).nw k14 |>.trans u3 fun z hz hlt => by have := (hD z (o3.lt hz).1).1; omega).then m16⟩
  ·rw [List.take_add_one, htt]
   refine (u2.mono (D' := fun z => (D z ∨ (h12.next ≤ z ∧ z < h14.next) ∨ z = h14.next) ∧ z < h15.next) fun z hz hlt => ⟨hz, hlt⟩).off m16 fun z hz _ e => ?_
   rcases hz.1 with h9 | h9 | h9
   ·have := (hD z h9).1; omega
   ·omega
   ·omega
  ·rcases hz.1 with h9 | h9 | h9
   ·have := hD z h9; omega
   ·omega
   ·omega
 ·obtain rfl : l = nt := by omega
  rw [List.take_of_length_le (by omega)] at o3
  obtain ⟨h17, s17, b17, z17, o17⟩ := st_all (vs := [.slice A6 nv K6, .slice A7 na K7, .slice A3 l K3]) g212 rfl (by simp [flat])
  have m17 : Mt (fun z => z = h1.next) h12 h17 := ⟨by omega, fun z _ hn => o17 z hn⟩
  refine ⟨_, _, _, _, _, _, _, _, _, ldN3' (ldC_of b12 rfl) (ldC_of b12 rfl) (ldC_of b12 rfl), h17, s17, _, _, _, _, _, _, _, _, _, ldN3' (ldC_of b17 rfl) (ldC_of b17 rfl) (ldC_of b17 rfl), hK _ _ _ _ _ _ D h17 ?_ ?_ ?_ (fun z hz => ?_) (fun z hz => ?_) (fun z hz => ?_) (m17.is_nw k112 fun z hz => by omega)⟩
  ·exact (v8.off m12 fun z hz _ e => (lo6 z hz).2.1 e).off m17 fun z hz _ e => (lo6 z hz).2.2.1 e
  ·exact (a8.off m12 fun z hz _ e => (lo7 z hz).2.1 e).off m17 fun z hz _ e => (lo7 z hz).2.2.1 e
  ·exact o3.off m17 fun z hz _ e => by have := (hD z hz).1; omega
  ·have := lo6 z hz
   exact ⟨this.1, fun h7 => by have := lo7 z h7; omega, fun hd => by have := (hD z hd).1; omega⟩
  ·have := lo7 z hz
   exact ⟨this.1, fun hd => by have := (hD z hd).1; omega⟩
  ·have := (hD z hz).1; omega
def trRow (t : Tab) (k : Nat) : List Int := (List.range t.1.toNat).map fun i => (t.2.2[i * t.2.1.toNat + k]?).getD 0
theorem aTransposed {t : Tab} (hs0 : Sz cI F h A n K t.2.2) (ht : TableOk t.1 t.2.1 t.2.2) (hK : ∀ A' n' K' h', Sa cI (fun z => h.next ≤ z) h' A' n' K' (transL t) → Nw h h' → Q (.agg #[.int .i64 t.2.1, .int .i64 t.1, .slice A' n' K']) h') :
  WC Tryz.prog 7 [.agg #[.int .i64 t.1, .int .i64 t.2.1, .slice A n K]] h Q := by
 have hs : Sz cI (fun z => z < h.next) h A n K t.2.2 := hs0.mono fun z _ hz => hz
 have ln := hs.len
 obtain ⟨⟨i0, i1⟩, ⟨q0, q1⟩, tl, -⟩ := ht
 obtain ⟨I, hI⟩ := Int.eq_ofNat_of_zero_le i0
 obtain ⟨O, hO⟩ := Int.eq_ofNat_of_zero_le q0
 have tl' : n = I * O := by rw [hI, hO, ← Int.natCast_mul] at tl; omega
 refine w_top_transposed fun h1 e1 h2 e2 => ?_
 obtain ⟨k1, g1, z1⟩ := news e1
 obtain ⟨k2, g2, z2⟩ := news e2
 refine ⟨_, ldC_of (k2.bk (by omega) g1) rfl, _, ldC_of (k2.bk (by omega) g1) rfl, fun h3 e3 => ?_⟩
 obtain ⟨h4, s4, k4, g4, z4⟩ := box_st (vs := [.int .i64 t.2.1, .int .i64 t.1, .slice none 0 0]) e3 rfl (by simp [flat])
 have k14 := (k1.trans k2).trans k4
 have g14 := (k2.trans k4).bk (by omega) g1
 refine ⟨h4, s4, fun m x h5 => ∃ (k : Nat) (A' : Option Addr) (K' : Nat), x = k ∧ k ≤ O ∧ m = O - k ∧ Bk h5 h2.next [.int .i64 t.2.1, .int .i64 t.1, .slice A' (k * I) K'] 38 ∧ OwnP cI h5 (ownB A') 2 A' (k * I) K' ((List.range k).flatMap (trRow t)) ∧ (∀ z, ownB A' z → h4.next ≤ z) ∧ Mt (fun z => z = h2.next) h4 h5, O, ⟨0, none, 0, rfl, Nat.zero_le _, rfl, by rw [Nat.zero_mul]; exact g4, by rw [Nat.zero_mul]; exact OwnP.nil _ _ _ _, fun z hz => hz.elim, Mt.refl _ _⟩, ?_⟩
 rintro m x h5 ⟨k, A', K', rfl, hk, hm, b5, o5, lo5, m5⟩
 have z5 := m5.next
 have g15 := m5.bk (by omega) (by omega) g14
 refine ⟨_, ldC_of g15 rfl, fun hlt => ?_, fun hge => ?_⟩
 ·have hkO : k < O := by omega
  have hkI : k * I ≤ 16 * 16 := Nat.mul_le_mul (by omega) (by omega)
  refine ⟨fun m x h6 => ∃ (i : Nat) (A' : Option Addr) (K' : Nat), x = i ∧ i ≤ I ∧ m = I - i ∧ Bk h6 h2.next [.int .i64 t.2.1, .int .i64 t.1, .slice A' (k * I + i) K'] 38 ∧ OwnP cI h6 (ownB A') 2 A' (k * I + i) K' ((List.range k).flatMap (trRow t) ++ (List.range i).map fun i => (t.2.2[i * t.2.1.toNat + k]?).getD 0) ∧ (∀ z, ownB A' z → h4.next ≤ z) ∧ Mt (fun z => z = h2.next) h4 h6, I, ⟨0, A', K', rfl, Nat.zero_le _, rfl, b5, by simpa using o5, lo5, m5⟩, ?_⟩
  rintro m' x h6 ⟨i, A2, K2, rfl, hi, hm', b6, o6, lo6, m6⟩
  have z6 := m6.next
  have g16 := m6.bk (by omega) (by omega) g14
  refine ⟨_, ldC_of g16 rfl, fun hlt' => ?_, fun hge' => ?_⟩
  ·have hiI : i < I := by omega
   have hmul : (i + 1) * O ≤ I * O := Nat.mul_le_mul_right _ hiI
   rw [Nat.succ_mul] at hmul
   have hIO : I * O ≤ 16 * 16 := Nat.mul_le_mul (by omega) (by omega)
   have k16 : Nw h h6 := m6.is_nw k14 fun z hz => by omega
   obtain ⟨b', o', y, hA, -, -, hy, e0⟩ := (hs.nw k16).int (k := i * O + k) (by omega)
   have w1 : IntKind.i64.wrap ((i : Int) * t.2.1) = ((i * O : Nat) : Int) := by rw [hO, ← Int.natCast_mul]; exact wr_ok (by omega) (by omega)
   have w2 : IntKind.i64.wrap (((i * O : Nat) : Int) + (k : Int)) = ((i * O + k : Nat) : Int) := by rw [Int.natCast_add]; exact wr_ok (by omega) (by omega)
   refine ⟨_, _, _, ldC_of b6 rfl, _, _, _, ldC_of g16 rfl, _, ldC_of g16 rfl, _, w1, _, w2, i * O + k, rfl, b', o', hA, by omega, _, e0, fun h7 e7 => ?_⟩
   obtain ⟨k7, g7, z7⟩ := news e7
   obtain ⟨A4, K4, h8, x1, x2, x3, x4⟩ := app_row (r := cI) (bytes := 8) (e := 2) free_cI (by kernel_rfl) (o6.nw k7) (Sz.one (r := cI) (L := 2) (x := y) (F := fun z => z = h6.next) g7 rfl (by omega) rfl rfl) (by omega) (by omega)
   have z8 := x3.next
   obtain ⟨h9, s9, b9, z9, o9⟩ := st_one (v := .slice A4 (k * I + i + 1) K4) (x3.bk (by omega) (fun ho => by have := lo6 _ ho; omega) (k7.bk (by omega) b6)) (o := 2) (by simp) rfl
   have m9 : Mt (fun z => z = h2.next) h8 h9 := ⟨by omega, fun z _ hn => o9 z hn⟩
   have lo9 : ∀ z, ownB A4 z → h4.next ≤ z := fun z hz => (x4 z hz).elim (lo6 z) (fun h => by omega)
   refine ⟨A4, k * I + i + 1, K4, h8, x1, h9, s9, _, wrS (by omega), I - (i + 1), by omega, i + 1, A4, K4, rfl, by omega, rfl, b9, ?_, lo9, ((m6.nw k7).trans x3 fun z hz hlt => by have := lo6 z hz; omega).then m9⟩
   rw [List.range_succ, List.map_append, ← List.append_assoc, List.map_singleton]
   have hyy : (t.2.2[i * t.2.1.toNat + k]?).getD 0 = y := by
    rw [show t.2.1.toNat = O by omega, hy]; rfl
   rw [hyy]
   exact x2.off m9 fun z hz _ e => by have := lo9 z hz; omega
  ·obtain rfl : i = I := by omega
   have hr : (List.range (k + 1)).flatMap (trRow t) = (List.range k).flatMap (trRow t) ++ (List.range i).map fun i => (t.2.2[i * t.2.1.toNat + k]?).getD 0 := by
    rw [List.range_succ, List.flatMap_append]
    have : t.1.toNat = i := by omega
    simp [trRow, this]
   have hsm : (k + 1) * i = k * i + i := Nat.succ_mul k i
   refine ⟨_, wrS (by omega), O - (k + 1), by omega, k + 1, A2, K2, rfl, by omega, rfl, by rw [hsm]; exact b6, by rw [hsm, hr]; exact o6, lo6, m6⟩
 ·obtain rfl : k = O := by omega
  obtain ⟨h10, s10, b10, z10, o10⟩ := st_all (vs := [.int .i64 t.2.1, .int .i64 t.1, .slice A' (k * I) K']) (m5.bk (by omega) (by omega) ((k4.bk (by omega) g2))) rfl (by simp [flat])
  have m10 : Mt (fun z => z = h1.next) h5 h10 := ⟨by omega, fun z _ hn => o10 z hn⟩
  have htr : (List.range k).flatMap (trRow t) = transL t := by
   have e : transL t = (List.range t.2.1.toNat).flatMap (trRow t) := rfl
   rw [e, show t.2.1.toNat = k by omega]
  rw [htr] at o5
  refine ⟨_, _, _, _, _, ldN3' (ldC_of b5 rfl) (ldC_of b5 rfl) (ldC_of b5 rfl), h10, s10, _, _, _, _, _, ldN3' (ldC_of b10 rfl) (ldC_of b10 rfl) (ldC_of b10 rfl), hK A' (k * I) K' h10 ((o5.off m10 fun z hz _ e => by have := lo5 z hz; omega).sa.mono fun z hz _ => by have := lo5 z hz; omega) ?_⟩
  exact m10.is_nw (m5.is_nw k14 fun z hz => by omega) fun z hz => by omega
end
end Eva
end
section
open Go Go.RowKit
inductive HopsR (e : Nat → Nat → Option Nat) (lev : Nat → Nat) (s : Nat) : Nat → Nat → List Stp → Prop
 | nil : HopsR e lev s s 0 []
 | snoc {a b c x : Nat} {hs : List Stp} : HopsR e lev s a c hs → e a b = some x → HopsR e lev s b (c + x) (hs ++ [((lev a : Int), (a : Int), (b : Int))])
def tri3 (s : Stp) : List Value := [.int .i64 s.1, .int .i64 s.2.1, .int .i64 s.2.2]
def flatT (hs : List Stp) : List Value := hs.flatMap tri3
theorem flatT_len : ∀ hs : List Stp, (flatT hs).length = hs.length * 3
 | [] => rfl
 | s :: hs => by
  show (tri3 s ++ flatT hs).length = _
  rw [List.length_append, flatT_len hs, List.length_cons, Nat.succ_mul, Nat.add_comm]; rfl
theorem flatT_of : ∀ {hs : List Stp} {cells : List Value}, cells.length = hs.length * 3 → (∀ k s, hs[k]? = some s → (cells.drop (k * 3)).take 3 = tri3 s) → cells = flatT hs
 | [], cells, hl, _ => List.eq_nil_of_length_eq_zero (by simpa using hl)
 | s :: hs, cells, hl, hx => by
  have h0 := hx 0 s rfl
  rw [Nat.zero_mul, List.drop_zero] at h0
  have h1 : cells.drop 3 = flatT hs := flatT_of (by rw [List.length_drop, hl, List.length_cons]; omega) fun k u hk => by
   rw [List.drop_drop]
   have := hx (k + 1) u hk
   rwa [show (k + 1) * 3 = 3 + k * 3 by omega] at this
  show cells = tri3 s ++ flatT hs
  rw [← h0, ← h1, List.take_append_drop]
theorem flatT_set : ∀ {hs : List Stp} {k : Nat} {s : Stp}, k < hs.length → (flatT hs).take (k * 3) ++ tri3 s ++ (flatT hs).drop (k * 3 + 3) = flatT (hs.set k s)
 | [], k, s, h => by simp at h
 | u :: hs, 0, s, h => by
  show (tri3 u ++ flatT hs).take (0 * 3) ++ tri3 s ++ (tri3 u ++ flatT hs).drop 3 = tri3 s ++ flatT hs
  rfl
 | u :: hs, k + 1, s, h => by
  have ih := flatT_set (hs := hs) (k := k) (s := s) (by simpa using h)
  show (tri3 u ++ flatT hs).take ((k + 1) * 3) ++ tri3 s ++ (tri3 u ++ flatT hs).drop ((k + 1) * 3 + 3) = tri3 u ++ flatT (hs.set k s)
  rw [← ih, show (k + 1) * 3 = 3 + k * 3 by omega, show 3 + k * 3 + 3 = 3 + (k * 3 + 3) by omega]
  have e1 : (tri3 u ++ flatT hs).take (3 + k * 3) = tri3 u ++ (flatT hs).take (k * 3) := List.take_length_add_append (l₁ := tri3 u) (k * 3)
  have e2 : (tri3 u ++ flatT hs).drop (3 + (k * 3 + 3)) = (flatT hs).drop (k * 3 + 3) := by rw [← List.drop_drop]; rfl
  rw [e1, e2, List.append_assoc, List.append_assoc, List.append_assoc]
theorem flatT_get : ∀ {hs : List Stp} {k : Nat} {s : Stp}, hs[k]? = some s → ((flatT hs).drop (k * 3)).take 3 = tri3 s
 | [], k, s, h => by simp at h
 | u :: hs, 0, s, h => by
  obtain rfl := Option.some.inj h
  rfl
 | u :: hs, k + 1, s, h => by
  have ih := flatT_get (hs := hs) (k := k) (s := s) h
  show ((tri3 u ++ flatT hs).drop ((k + 1) * 3)).take 3 = _
  rw [show (k + 1) * 3 = 3 + k * 3 by omega, ← List.drop_drop]
  exact ih
namespace Eva
theorem tyH : tyB Tryz.prog 117 3 24 = true := by kernel_rfl
section
variable {h h' h0 : AH} {Q : Value → AH → Prop} {A : Option Addr} {n K : Nat} {hs : List Stp} {t : TypeId}
theorem OwnP.flat (o : OwnP cTri h (ownB A) t A n K hs) : hs.length = n ∧ ((A = none ∧ n = 0) ∨ ∃ g, A = some ⟨g, 0, none⟩ ∧ g < h.next ∧ Bk h g (flatT hs) t) := by
 obtain ⟨hl, o⟩ := o
 refine ⟨hl, ?_⟩
 rcases o with ⟨rfl, rfl, _⟩ | ⟨g, cells, rfl, -, h2, h3, h4, -, -, h7⟩
 ·exact .inl ⟨rfl, rfl⟩
 ·refine .inr ⟨g, rfl, h2, ?_⟩
  have : cells = flatT hs := flatT_of (by rw [h4, hl]; rfl) fun k s hk => h7 k s hk
  rw [← this]
  exact h3
theorem sa_flat {F : Nat → Prop} {g : Nat} (hb : Bk h g (flatT hs) t) (hF : F g) (hg : g < h.next) (K : Nat) : Sa cTri F h (some ⟨g, 0, none⟩) hs.length K hs := Sa.of_bk hb rfl hF hg fun k s hk => flatT_get hk
theorem aReverse (o : OwnP cTri h (ownB A) 117 A n K hs) (hn : n ≤ 100000) (hK : ∀ h', Sa cTri (ownB A) h' A n K hs.reverse → Mt (ownB A) h h' → h'.next = h.next → Q (.tuple #[]) h') : WC Tryz.prog 140 [.slice A n K] h Q := by
 obtain ⟨hl, ho⟩ := o.flat
 have w0 : IntKind.i64.wrap ((n : Int) - 1) = (n : Int) - 1 := wr_ok (by omega) (by omega)
 refine w_slices_Reverse_ask_Hop_ask_Hop ⟨_, w0, fun m x y h1 => ∃ (i : Nat) (ws : List Stp), x = i ∧ y = (n : Int) - 1 - i ∧ i ≤ n ∧ m = n - i ∧ ws.length = n ∧ (∀ k, k < n → ws[k]? = if k < i ∨ n ≤ k + i then hs[n - 1 - k]? else hs[k]?) ∧ (∀ g, A = some ⟨g, 0, none⟩ → Bk h1 g (flatT ws) 117) ∧ h1.next = h.next ∧ (∀ b, ¬ ownB A b → h1.get b = h.get b), n, ⟨0, hs, rfl, by omega, Nat.zero_le _, rfl, hl, fun k hk => by rw [if_neg (by omega)], fun g hA => ?_, rfl, fun _ _ => rfl⟩, ?_⟩
 ·rcases ho with ⟨h1, _⟩ | ⟨g', h1, _, h3⟩
  ·rw [h1] at hA; cases hA
  ·rw [h1] at hA
   injection hA with hA
   injection hA with hA
   subst hA
   exact h3
 rintro m x y h1 ⟨i, ws, rfl, rfl, hi, rfl, hwl, hws, hb, hz, hoth⟩
 refine ⟨fun hlt => ?_, fun hge => ?_⟩
 ·obtain ⟨g, rfl, hg⟩ : ∃ g, A = some ⟨g, 0, none⟩ ∧ g < h.next := by
   rcases ho with ⟨_, h1⟩ | ⟨g, h1, h2, _⟩
   ·omega
   ·exact ⟨g, h1, h2⟩
  have b1 := hb g rfl
  obtain ⟨j, hj⟩ : ∃ j, n - 1 - i = j := ⟨_, rfl⟩
  obtain ⟨u, hu⟩ : ∃ u, ws[j]? = some u := ⟨_, List.getElem?_eq_getElem (by omega)⟩
  obtain ⟨v, hv⟩ : ∃ v, ws[i]? = some v := ⟨_, List.getElem?_eq_getElem (by omega)⟩
  have rd : ∀ {k : Nat} {s : Stp}, ws[k]? = some s → ldN h1 g (0 + k * 3) 3 = some [.int .i64 s.1, .int .i64 s.2.1, .int .i64 s.2.2] := fun {k s} hk => by
   have := (List.getElem?_eq_some_iff.1 hk).1
   rw [Nat.zero_add, ldN_bk b1 (by rw [flatT_len]; omega), flatT_get hk]; rfl
  have wr3 : ∀ {ws : List Stp} {h1 : AH} {k : Nat} (s : Stp), Bk h1 g (flatT ws) 117 → k < ws.length → ∃ h2, stC h1 g (0 + k * 3) [.int .i64 s.1, .int .i64 s.2.1, .int .i64 s.2.2] = some h2 ∧ Bk h2 g (flatT (ws.set k s)) 117 ∧ h2.next = h1.next ∧ ∀ b, b ≠ g → h2.get b = h1.get b := fun {ws h1 k} s hb hk => by
   refine ⟨_, stN hb (by rw [flatT_len, Nat.zero_add]; show k * 3 + 3 ≤ _; omega) (flat3 rfl rfl rfl), ?_, rfl, fun b hb => by rw [get_put, if_neg hb]⟩
   show (h1.put g _).get g = _
   rw [get_put, if_pos rfl, Nat.zero_add]
   show some (AO.cells ((flatT ws).take (k * 3) ++ tri3 s ++ (flatT ws).drop (k * 3 + 3)) 117 false) = _
   rw [flatT_set hk]
  have wi : IntKind.i64.wrap ((i : Int) + 1) = ((i + 1 : Nat) : Int) := by rw [Int.natCast_succ]; exact wr_ok (by omega) (by omega)
  have wj : IntKind.i64.wrap ((j : Int) - 1) = (n : Int) - 1 - ((i + 1 : Nat) : Int) := by
   rw [wr_ok (by omega) (by omega)]; omega
  obtain ⟨h2, s2, b2, z2, o2⟩ := wr3 u b1 (k := i) (by omega)
  obtain ⟨h3, s3, b3, z3, o3⟩ := wr3 v b2 (k := j) (by simp; omega)
  refine ⟨j, by omega, g, 0, rfl, by omega, _, _, _, rd hu, i, rfl, by omega, _, _, _, rd hv, by omega, h2, s2, by omega, h3, s3, _, wi, _, wj, n - (i + 1), by omega, i + 1, (ws.set i u).set j v, rfl, rfl, by omega, rfl, by simp [hwl], fun k hk => ?_, fun g' hA => ?_, by omega, fun b hn => (o3 b (fun e => hn e)).trans ((o2 b (fun e => hn e)).trans (hoth b hn))⟩
  ·rw [List.getElem?_set, List.getElem?_set]
   have e1 := hws i (by omega)
   have e2 := hws j (by omega)
   rw [if_neg (by omega), hv] at e1
   rw [if_neg (by omega), hu] at e2
   by_cases k1 : j = k
   ·subst k1
    rw [if_pos rfl, if_pos (by simp; omega), if_pos (by omega)]
    rw [e1]
    congr 1
    omega
   ·rw [if_neg k1]
    by_cases k2 : i = k
    ·subst k2
     rw [if_pos rfl, if_pos (by omega), if_pos (by omega), e2]
     congr 1
     omega
    ·rw [if_neg k2, hws k hk]
     by_cases k3 : k < i ∨ n ≤ k + i
     ·rw [if_pos k3, if_pos (by omega)]
     ·rw [if_neg k3, if_neg (by omega)]
  ·injection hA with hA
   injection hA with hA
   subst hA
   exact b3
 ·have hrev : ws = hs.reverse := by
   apply List.ext_getElem?
   intro k
   by_cases hk : k < n
   ·rw [hws k hk, List.getElem?_reverse (by omega), hl]
    by_cases k3 : k < i ∨ n ≤ k + i
    ·rw [if_pos k3]
    ·rw [if_neg k3]
     congr 1
     omega
   ·rw [List.getElem?_eq_none (by omega), List.getElem?_eq_none (by simp; omega)]
  subst hrev
  refine hK h1 ?_ ⟨by omega, fun b _ hn => hoth b hn⟩ hz
  rcases ho with ⟨rfl, rfl⟩ | ⟨g, rfl, hg, -⟩
  ·have : hs = [] := List.eq_nil_of_length_eq_zero hl
   subst this
   rcases o.2 with ⟨_, _, rfl⟩ | ⟨g, _, h9, _⟩
   ·exact ⟨rfl, .inl ⟨rfl, rfl, rfl⟩, fun h => absurd h (Nat.lt_irrefl _)⟩
   ·cases h9
  ·have := sa_flat (F := ownB (some ⟨g, 0, none⟩)) (hb g rfl) rfl (by omega) K
   rwa [hwl] at this
end
section
variable {h h0 : AH} {Q : Value → AH → Prop} {Fa F Fo : Nat → Prop} {N : NetD} {p : List (List Int)} {g o C s t q mp bf : Nat} {cA : Option Addr} {cK : Nat} {D : Nat → Prop}
theorem aNewQuest (G : GrA h Fa F g N) (O : OvA h Fo o N p) (hK : ∀ q mp bf cA cK D h', QA h N p g o C s t q mp bf cA cK D h' → Bk h' bf ((List.replicate N.na (0 : Int)).map (Value.int .i64)) 3 → Q (.pointer (some ⟨q, 0, none⟩)) h') :
  WC Tryz.prog 30 [.pointer (some ⟨g, 0, none⟩), .pointer (some ⟨o, 0, none⟩), .slice (some ⟨C, 0, none⟩) (N.size p) (cx (N.size p)), .int .i64 s, .int .i64 t] h Q := by
 have hna := G.few.2
 refine w_ask_newQuest (oPart O fun A2 K2 h1 s1 k1 => ⟨_, _, _, rfl, fun h2 e2 => ?_⟩)
 obtain ⟨k2, g2, z2⟩ := news e2
 refine aArcs (G.nw (k1.trans k2)) ⟨_, rfl, N.na, rfl, by omega, fun h4 e4 h5 e5 => ?_⟩
 obtain ⟨k4, g4, z4⟩ := news e4
 obtain ⟨k5, g5, z5⟩ := news e5
 have z1 := k1.next
 rw [rep_one] at g4
 have k25 := k4.trans k5
 refine hK h4.next h1.next h2.next A2 K2 (fun b => h.next ≤ b ∧ b < h1.next) h5 ⟨((k1.trans k2).trans k25), g5, ((s1.mono fun b hb hlt => ⟨hb, hlt⟩).nw k2).nw k25, ⟨fun _ => none, (MapF.new g2).keep (k25.get _ (by omega)), fun l c v hv => by cases hv⟩, fun b hb => by omega, by omega⟩ ?_
 have := k5.bk (by omega) g4
 rw [List.map_replicate]
 exact this
end
end Eva
end
section
open Go Go.RowKit
def farO (N : NetD) (c : Nat) (ol : List Nat) (pr : List Int) (i : Nat) : Option (Nat × Nat) :=
 match ol[i]?, pr[i]? with
 | some b, some x => if sumI [(c : Int), x, N.w b] < INF then some (b, (sumI [(c : Int), x, N.w b]).toNat) else none
 | _, _ => none
def farP (N : NetD) (c : Nat) (ol : List Nat) (pr : List Int) (j : Nat) : List (Nat × Nat) := (List.range j).filterMap (farO N c ol pr)
theorem farP_succ (N : NetD) (c : Nat) (ol : List Nat) (pr : List Int) (j : Nat) : farP N c ol pr (j + 1) = farP N c ol pr j ++ (farO N c ol pr j).toList := by
 unfold farP
 rw [List.range_succ, List.filterMap_append]
 cases h : farO N c ol pr j <;> simp [List.filterMap_cons, h]
theorem sum3 {c x w : Int} (hc : 0 ≤ c ∧ c ≤ INF) (hx : 0 ≤ x ∧ x ≤ INF) (hw : 0 ≤ w ∧ w ≤ INF) : sumI [c, x, w] = min (c + x + w) INF := by
 unfold INF at *
 show addI (addI (addI 0 c) x) w = _
 rw [addI_min, addI_min, addI_min, heldI_in (a := 0) (by omega) (by omega), heldI_in hc.1 hc.2, heldI_in hx.1 hx.2, heldI_in hw.1 hw.2, heldI_in (a := min (0 + c) 1152921504606846976) (by omega) (by omega), heldI_in (a := min (min (0 + c) 1152921504606846976 + x) 1152921504606846976) (by omega) (by omega)]
 omega
theorem mem_farP {N : NetD} {c n b y : Nat} {ol : List Nat} {pr : List Int} : (b, y) ∈ farP N c ol pr n ↔ ∃ i x, i < n ∧ ol[i]? = some b ∧ pr[i]? = some x ∧ sumI [(c : Int), x, N.w b] < INF ∧ y = (sumI [(c : Int), x, N.w b]).toNat := by
 unfold farP
 rw [List.mem_filterMap]
 constructor
 ·rintro ⟨i, hi, h⟩
  unfold farO at h
  cases h1 : ol[i]? with
  | none => rw [h1] at h; cases h
  | some b' =>
   cases h2 : pr[i]? with
   | none => rw [h1, h2] at h; cases h
   | some x =>
    rw [h1, h2] at h
    simp only at h
    by_cases h3 : sumI [(c : Int), x, N.w b'] < INF
    ·rw [if_pos h3] at h
     obtain h4 := Option.some.inj h
     injection h4 with h5 h6
     subst h5
     exact ⟨i, x, by simpa using hi, h1, h2, h3, h6.symm⟩
    ·rw [if_neg h3] at h; cases h
 ·rintro ⟨i, x, hi, h1, h2, h3, rfl⟩
  refine ⟨i, by simpa using hi, ?_⟩
  unfold farO
  rw [h1, h2]
  simp only
  rw [if_pos h3]
section
variable {N : NetD} {p : List (List Int)} {costs : List Int} {s t a c : Nat} {ol : List Nat} {pr : List Int}
theorem NextR.put (hR : NextR N p costs s t a ol pr) (hok : N.Ok) (hc : c < INFN) {b x : Nat} (h : N.le p costs s t a b = some x) (hx : c + x < INFN) : (b, c + x) ∈ farP N c ol pr ol.length := by
 obtain ⟨i, y, h1, h2, h3, h4, rfl⟩ := hR.all b x h
 have hy := hR.nn y (List.mem_of_getElem? h2)
 have hw := NetD.w_bd hok b
 have h5 := sum3 (c := (c : Int)) (x := y) (w := N.w b) (by unfold INF INFN at *; omega) hy (by unfold INF at *; omega)
 refine mem_farP.2 ⟨i, y, (List.getElem?_eq_some_iff.1 h1).1, h1, h2, ?_, ?_⟩
 ·rw [h5]; unfold INF INFN at *; omega
 ·rw [h5]; unfold INF INFN at *; omega
theorem NextR.step (hR : NextR N p costs s t a ol pr) (hok : N.Ok) (hc : c < INFN) {b y : Nat} (h : (b, y) ∈ farP N c ol pr ol.length) : y < INFN ∧ b < N.na ∧ ∃ x, N.le p costs s t a b = some x ∧ y = c + x := by
 obtain ⟨i, x, hi, h1, h2, h3, rfl⟩ := mem_farP.1 h
 have hy := hR.nn x (List.mem_of_getElem? h2)
 have hw := NetD.w_bd hok b
 have h5 := sum3 (c := (c : Int)) (x := x) (w := N.w b) (by unfold INF INFN at *; omega) hy (by unfold INF at *; omega)
 rw [h5] at h3 ⊢
 refine ⟨by unfold INF INFN at *; omega, hR.lt b (List.mem_of_getElem? h1), _, hR.here i b x h1 h2 (by unfold INF at *; omega) (by unfold INF at *; omega), by unfold INF at *; omega⟩
end
theorem map_par {par : Nat → Nat} {k a n : Nat} (hk : k < n) : ((List.range n).map fun b => ((par b : Nat) : Int)).set k (a : Int) = (List.range n).map fun b => ((upd par k a b : Nat) : Int) := by
 apply List.ext_getElem?
 intro i
 rw [List.getElem?_set]
 by_cases e : k = i
 ·subst e
  simp [hk, upd]
 ·simp only [if_neg e, List.getElem?_map]
  by_cases hi : i < n
  ·simp [List.getElem?_range hi, upd, Ne.symm e]
  ·rw [List.getElem?_eq_none (by simpa using hi)]; rfl
namespace Eva
section
variable {h h0 : AH} {Q : Value → AH → Prop} {Fa F Fo : Nat → Prop} {N : NetD} {p : List (List Int)} {g o C s t q mp bf : Nat} {cA : Option Addr} {cK : Nat} {D : Nat → Prop} {costs : List Int}
theorem aHops (B : QA h0 N p g o C s t q mp bf cA cK D h) (G : GrA h0 Fa F g N) (hp : PartOk N.nv p) (hs : s < N.na) (ht : t < N.na) {par rank : Nat → Nat} {done w : Nat → Option Nat} {cnt c : Nat} (hb : Bk h bf ((List.range N.na).map fun b => Value.int .i64 ((par b : Nat) : Int)) 3)
  (hP : Par INFN (N.le p costs s t) s done w par rank cnt) (hdn : ∀ a x, done a = some x → a < N.na) (hcnt : cnt ≤ 1000) (hw : w t = some c) (hnt : done t = none)
  (hK : ∀ (A : Option Addr) (n K : Nat) (hs : List Stp) (h' : AH), Sa cTri (fun b => h.next ≤ b) h' A n K hs → HopsR (N.le p costs s t) (fun a => N.lev p s t (N.to a)) s t c hs → Nw h h' → Q (.slice A n K) h') :
  WC Tryz.prog 67 [.pointer (some ⟨q, 0, none⟩)] h Q := by
 obtain ⟨P1, P2, P3, P4, P5, P6, P7, P8, P9⟩ := B.pos
 have hna := G.few.2
 refine w_ask_quest_hops ⟨q, 0, rfl, t, ldC_of B.blk rfl, fun m A1 n1 K1 x h1 => ∃ (b cb : Nat) (l : List Stp), x = b ∧ b < N.na ∧ OwnP cTri h1 (ownB A1) 117 A1 n1 K1 l ∧ (∀ z, ownB A1 z → h.next ≤ z) ∧ Nw h h1 ∧ n1 + m ≤ cnt + 1 ∧ (b = s → cb = 0) ∧ (b ≠ s → ∃ ca y, done (par b) = some ca ∧ N.le p costs s t (par b) b = some y ∧ cb = ca + y ∧ rank (par b) < m) ∧
  (∀ hs0, HopsR (N.le p costs s t) (fun a => N.lev p s t (N.to a)) s b cb hs0 → HopsR (N.le p costs s t) (fun a => N.lev p s t (N.to a)) s t c (hs0 ++ l.reverse)), cnt + 1, ⟨t, c, [], rfl, ht, OwnP.nil _ _ _ _, fun z hz => hz.elim, Nw.refl _, by omega, fun e => hP.zero c (.inr (e ▸ hw)), fun e => ?_, fun hs0 h => by simpa using h⟩, ?_⟩
 ·obtain ⟨ca, y, h1, h2, h3⟩ := hP.step t c e (.inr hw)
  exact ⟨ca, y, h1, h2, h3, by have := hP.rank_lt _ _ h1; omega⟩
 rintro m A1 n1 K1 x h1 ⟨b, cb, l, rfl, hbn, o1, lo1, k1, hm, hbs, hbp, hsuf⟩
 have B1 := B.next k1
 refine ⟨s, ldC_of B1.blk rfl, fun he => ?_, fun hne => ?_⟩
 ·have he' : b = s := by omega
  subst he'
  obtain rfl := hbs rfl
  have hfin := hsuf [] .nil
  rw [List.nil_append] at hfin
  exact aReverse o1 (by omega) fun h2 s2 m2 z2 => ⟨rfl, hK A1 n1 K1 l.reverse h2 (s2.mono fun z hz _ => lo1 z hz) hfin (m2.is_nw k1 lo1)⟩
 ·obtain ⟨ca, y, h2, h3, h4, h5⟩ := hbp (fun e => hne (by rw [e]))
  have hpn := hdn _ _ h2
  have rd : ∀ h2, Nw h h2 → ldC h2 bf (0 + b) = some (.int .i64 ((par b : Nat) : Int)) := fun h2 k2 => by
   rw [ldC_bk (k2.bk P9 hb), Nat.zero_add]
   simp [hbn]
  refine ⟨_, _, _, ldC_of B1.blk rfl, b, rfl, bf, 0, rfl, hbn, _, rd h1 k1, aLevel B1 G hp hs ht hpn ⟨_, rfl, fun h4' e4 => ?_⟩⟩
  obtain ⟨k4, g4, z4⟩ := news e4
  have hz : Sz cTri (fun z => z = h1.next) h4' (some ⟨h1.next, 0, none⟩) 1 2 [(((N.lev p s t (N.to (par b)) : Nat) : Int), ((par b : Nat) : Int), (b : Int))] := Sz.one g4 rfl (by omega) rfl rfl
  obtain ⟨A', K', h5', y1, y2, y3, y4⟩ := app_row (free_tri _ _ _) (r := cTri) tyH (o1.nw k4) hz (by omega) (by omega)
  have z1 := k1.next
  have z5 := y3.next
  have k5 : Nw h h5' := y3.is_nw (k1.trans k4) lo1
  have B5 := B.next k5
  refine ⟨A', n1 + 1, K', h5', y1, _, _, _, ldC_of B5.blk rfl, bf, 0, rfl, hbn, _, rd h5' k5, rank (par b), h5, par b, ca, _, rfl, hpn, y2, fun z hz => (y4 z hz).elim (lo1 z) (fun h => by omega), k5, by omega, fun e => hP.zero ca (.inl (e ▸ h2)), fun e => ?_, fun hs0 hh => ?_⟩
  ·obtain ⟨ca', y', q1, q2, q3⟩ := hP.step _ ca e (.inl h2)
   exact ⟨ca', y', q1, q2, q3, hP.earlier _ ca e h2⟩
  ·rw [List.reverse_append, List.reverse_singleton, ← List.append_assoc]
   refine hsuf _ ?_
   rw [h4]
   exact .snoc hh h3
end
end Eva
end
end Go.Proofs.YtbbmelmllcaopaaGreatDoor
