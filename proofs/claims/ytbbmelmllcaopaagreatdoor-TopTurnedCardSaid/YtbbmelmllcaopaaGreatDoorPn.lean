/-
A part of the proof of TopTurned: lemmas that the last text joins. No condition.
-/
import Derived.Test.YtbbmelmllcaopaaGreatDoorPm
import Derived.Test.YtbbmelmllcaopaaGreatDoorPh
import Derived.Test.YtbbmelmllcaopaaGreatDoorPi
namespace Go.Proofs.YtbbmelmllcaopaaGreatDoor
set_option linter.unusedVariables false
set_option linter.unusedSimpArgs false
set_option linter.unusedSectionVars false
set_option linter.unnecessarySimpa false
section
open Go Go.RowKit
namespace Eva
def parL (par : Nat → Nat) (n : Nat) : List Int := (List.range n).map fun b => ((par b : Nat) : Int)
def doneL (done : Nat → Option Nat) (n : Nat) : List Bool := (List.range n).map fun a => (done a).isSome
structure RA (h0 : AH) (q mp bf DN hp n : Nat) (D : Nat → Prop) (done w : Nat → Option Nat) (par : Nat → Nat) (h : AH) : Prop where
 dn : Bk h DN ((doneL done n).map Value.bool) 4
 bf_ : Bk h bf ((parL par n).map (Value.int .i64)) 3
 heap : ∃ S, HeapQA h S hp n w ∧ ∀ b, S b → h0.next ≤ b ∧ b < h.next ∧ b ≠ q ∧ b ≠ mp ∧ b ≠ bf ∧ b ≠ DN ∧ ¬ D b
 pos : h0.next ≤ DN ∧ DN < h.next ∧ DN ≠ q ∧ DN ≠ mp ∧ DN ≠ bf ∧ bf < h.next ∧ ¬ D DN
section
variable {h h' h0 : AH} {Q : Value → AH → Prop} {Fa F Fo : Nat → Prop} {N : NetD} {p : List (List Int)} {g o C s t q mp bf DN hp n : Nat} {cA : Option Addr} {cK : Nat} {D D' : Nat → Prop} {costs : List Int} {done w : Nat → Option Nat} {par : Nat → Nat}
theorem RA.next (R : RA h0 q mp bf DN hp n D done w par h) (a : Nw h h') : RA h0 q mp bf DN hp n D done w par h' := by
 obtain ⟨p1, p2, p3, p4, p5, p6, p7⟩ := R.pos
 obtain ⟨S, H, hS⟩ := R.heap
 have z := a.next
 exact ⟨a.bk p2 R.dn, a.bk p6 R.bf_, ⟨S, H.nw a, fun b hb => by have := hS b hb; exact ⟨this.1, by omega, this.2.2⟩⟩, p1, by omega, p3, p4, p5, by omega, p7⟩
theorem RA.grow (R : RA h0 q mp bf DN hp n D done w par h) (m : Mt (fun b => b = mp) h h') (hD : ∀ b, D' b → D b ∨ h.next ≤ b) (hbf : bf ≠ mp) : RA h0 q mp bf DN hp n D' done w par h' := by
 obtain ⟨p1, p2, p3, p4, p5, p6, p7⟩ := R.pos
 obtain ⟨S, H, hS⟩ := R.heap
 have z := m.next
 refine ⟨m.bk p2 p4 R.dn, m.bk p6 hbf R.bf_, ⟨S, H.off m fun b hb e => (hS b hb).2.2.2.1 e, fun b hb => ?_⟩, p1, by omega, p3, p4, p5, by omega, fun hd => (hD _ hd).elim p7 (fun h => by omega)⟩
 obtain ⟨s1, s2, s3, s4, s5, s6, s7⟩ := hS b hb
 exact ⟨s1, by omega, s3, s4, s5, s6, fun hd => (hD b hd).elim s7 (fun h => by omega)⟩
theorem relax_snoc (dn : Nat → Option Nat) (k : Nat) (l : List (Nat × Nat)) (x : Nat × Nat) (st : (Nat → Option Nat) × (Nat → Nat)) : relaxL dn k (l ++ [x]) st = relax1 dn k (relaxL dn k l st) x := by
 unfold relaxL
 rw [List.foldl_append]; rfl
theorem aRun (B : QA h0 N p g o C s t q mp bf cA cK D h) (hbf : Bk h bf ((List.replicate N.na (0 : Int)).map (Value.int .i64)) 3) (G : GrA h0 Fa F g N) (O : OvA h0 Fo o N p) (bc : Bk h0 C (costs.map (Value.int .i64)) 2) (hC : C < h0.next) (hco : CostsOk N p costs) (hsz : N.size p < 1000000) (hs : s < N.na) (ht : t < N.na)
  (hK : ∀ (d : Nat) (A : Option Addr) (n K : Nat) (hs : List Stp) (h' : AH), Sa cTri (fun b => h.next ≤ b) h' A n K hs → Nw h0 h' → (N.w s < INF → Least INFN (N.le p costs s t) s t d ∧ (d < INFN → HopsR (N.le p costs s t) (fun a => N.lev p s t (N.to a)) s t d hs)) → (INF ≤ N.w s → d = INFN) → (d = INFN → hs = []) → d ≤ INFN → Q (.tuple #[.int .i64 d, .slice A n K]) h') :
  WC Tryz.prog 31 [.pointer (some ⟨q, 0, none⟩)] h Q := by
 have hok := G.ok
 have hp := O.hp
 have hna := G.few.2
 obtain ⟨P1, P2, P3, P4, P5, P6, P7, P8, P9⟩ := B.pos
 have none_ : ∀ h', Nw h0 h' → (N.w s < INF → Least INFN (N.le p costs s t) s t INFN) → Q (.tuple #[.int .i64 1152921504606846976, .slice none 0 0]) h' := fun h' k hL =>
  hK INFN none 0 0 [] h' ⟨rfl, .inl ⟨rfl, rfl, rfl⟩, fun h => absurd h (Nat.lt_irrefl _)⟩ k (fun hw => ⟨hL hw, fun h => absurd h (Nat.lt_irrefl _)⟩) (fun _ => rfl) (fun _ => rfl) (Nat.le_refl _)
 refine w_ask_quest_run ⟨q, 0, rfl, _, ldC_of B.blk rfl, _, ldC_of B.blk rfl, aWeight (G.nw B.nw) hs ⟨_, rfl, fun hge => none_ h B.nw (fun hw => absurd hw (Int.not_lt.2 hge)), fun hlt => ?_⟩⟩
 have hws : N.w s < INF := Int.not_le.1 hlt
 refine ⟨_, _, _, ldC_of B.blk rfl, by omega, fun h2 e2 => ?_⟩
 obtain ⟨k2, g2, z2⟩ := news e2
 rw [rep_one] at g2
 refine ⟨_, _, _, ldC_of (B.next k2).blk rfl, hNew N.na (by omega) fun h3 S3 hh H3 k3 hS3 => ⟨_, rfl, s, ldC_of (B.next (k2.trans k3)).blk rfl, hPut H3 hs (Int.le_refl _) (by omega) fun h4 S4 H4 m4 g4 => ⟨_, rfl, ?_⟩⟩⟩
 have z3 := k3.next
 have z4 := m4.next
 have S3lt : ∀ b, S3 b → b < h3.next := fun b hb => by
  obtain ⟨row, costs', A', K', Bc, Bs, seats, -, -, -, q4⟩ := H3
  exact q4 b hb
 have S4lt : ∀ b, S4 b → h2.next ≤ b ∧ b < h4.next := fun b hb => (g4 b hb).elim (fun h => by have := hS3 b h; have := S3lt b h; omega) (fun h => by omega)
 have B4 : QA h0 N p g o C s t q mp bf cA cK D h4 := (B.next (k2.trans k3)).off m4 fun b hb => ⟨by have := hS3 b hb; omega, by have := hS3 b hb; omega, by have := hS3 b hb; omega, fun hd => by have := (B.dlo b hd).2.1; have := hS3 b hb; omega⟩
 have R4 : RA h0 q mp bf h.next hh N.na D (fun _ => none) (fun b => if b = s then some 0 else none) (fun _ => 0) h4 := by
  refine ⟨?_, ?_, ⟨S4, H4, fun b hb => ?_⟩, by omega, by omega, by omega, by omega, by omega, by omega, fun hd => by have := (B.dlo _ hd).2.1; omega⟩
  ·have := m4.bk (by omega) (fun hs => by have := hS3 _ hs; omega) (k3.bk (by omega) g2)
   have e : doneL (fun _ => none) N.na = List.replicate N.na false := by
    unfold doneL
    show (List.range N.na).map (fun _ => false) = _
    rw [List.map_const', List.length_range]
   rw [e, List.map_replicate]
   exact this
  ·have := m4.bk (by omega) (fun hs => by have := hS3 _ hs; omega) ((k2.trans k3).bk P9 hbf)
   have e : parL (fun _ => 0) N.na = List.replicate N.na 0 := by
    unfold parL
    show (List.range N.na).map (fun _ => (0 : Int)) = _
    rw [List.map_const', List.length_range]
   rw [e]
   exact this
  ·have := S4lt b hb
   exact ⟨by omega, by omega, by omega, by omega, by omega, by omega, fun hd => by have := (B.dlo b hd).2.1; omega⟩
 refine ⟨fun m h5 => ∃ (done w : Nat → Option Nat) (par rank : Nat → Nat) (D : Nat → Prop), QA h0 N p g o C s t q mp bf cA cK D h5 ∧ RA h0 q mp bf h.next hh N.na D done w par h5 ∧ Dij INFN (N.le p costs s t) s done (finQ INFN w) ∧ Par INFN (N.le p costs s t) s done w par rank (cntD done N.na) ∧ (∀ b c, w b = some c → c < INFN) ∧ (∀ a c, done a = some c → a < N.na) ∧ done t = none ∧ ((done = (fun _ => none) ∧ w = fun b => if b = s then some 0 else none) ∨ done s ≠ none) ∧ m = N.na - cntD done N.na ∧ h.next < h5.next, N.na, ⟨fun _ => none, _, _, fun _ => 0, D, B4, R4, ?_, ?_, fun b c hb => ?_, (fun a c h => by cases h), rfl, .inl ⟨rfl, rfl⟩, ?_, by omega⟩, ?_⟩
 ·rw [finQ_first]; exact Dij.new (by unfold INFN; omega)
 ·have e : cntD (fun _ => none) N.na = 0 := by simp [cntD]
  rw [e]
  exact Par.start rfl rfl _ _
 ·by_cases e : b = s
  ·simp [e] at hb; unfold INFN; omega
  ·simp [e] at hb
 ·have e : cntD (fun _ => none) N.na = 0 := by simp [cntD]
  rw [e]; rfl
 rintro m h5 ⟨done, w, par, rank, D5, B5, R5, hD, hPr, hwI, hdn, hdt, hst, rfl, hlt5⟩
 have hfin : finQ INFN w = w := by
  funext b
  unfold finQ
  cases hb : w b with
  | none => rfl
  | some c => simp [hwI b c hb]
 obtain ⟨S5, H5, hS5⟩ := R5.heap
 obtain ⟨p51, p52, p53, p54, p55, p56, p57⟩ := R5.pos
 refine hPop H5 (fun hq => ?_) (fun k c h6 hkN hqk hmin H6 m6 z6 => ?_)
 ·refine ⟨_, _, _, rfl, fun h => Bool.noConfusion h, fun _ => none_ h5 B5.nw fun _ => ?_⟩
  have := hD.over (fun b c hb => by rw [hq b] at hb; cases hb) t
  rw [hdt] at this
  exact this
 ·have hcI := hwI k c hqk
  have offS : ∀ b, S5 b → h0.next ≤ b ∧ b ≠ q ∧ b ≠ mp ∧ ¬ D5 b := fun b hb => by have := hS5 b hb; exact ⟨this.1, this.2.2.1, this.2.2.2.1, this.2.2.2.2.2.2⟩
  have B6 := B5.off m6 offS
  have dn6 := m6.bk p52 (fun hs => (hS5 _ hs).2.2.2.2.2.1 rfl) R5.dn
  have bf6 := m6.bk p56 (fun hs => (hS5 _ hs).2.2.2.2.1 rfl) R5.bf_
  have hcn : cntD done N.na ≤ N.na := cntD_le _ _
  refine ⟨_, _, _, rfl, fun _ => ⟨t, ldC_of B6.blk rfl, fun he => ?_, fun hne => ?_⟩, fun h => Bool.noConfusion h⟩
  ·have he' : k = t := by omega
   subst he'
   have hL : Least INFN (N.le p costs s k) s k c := hD.found (by rw [hfin]; exact hqk) (fun b c' hb => hmin b c' (by rw [hfin] at hb; exact hb))
   have bf6' : Bk h6 bf ((List.range N.na).map fun b => Value.int .i64 ((par b : Nat) : Int)) 3 := by
    have := bf6
    unfold parL at this
    rw [List.map_map] at this
    exact this
   refine aHops B6 G hp hs hkN bf6' hPr hdn (by omega) hqk hdt fun A n K hps h7 s7 hh7 k7 => ⟨_, _, _, rfl, hK c A n K hps h7 (s7.mono fun b hb _ => by omega) (B6.nw.trans k7) (fun _ => ⟨hL, fun _ => hh7⟩) (fun h => absurd hws (Int.not_lt.2 h)) (fun h => by omega) (by omega)⟩
  ·have hkt : k ≠ t := fun e => hne (by rw [e])
   obtain ⟨h8, s8, b8, z8, o8⟩ := st_one (v := .bool true) dn6 (o := 0 + k) (by unfold doneL; simpa using hkN) rfl
   have hdk : done k = none := by
    have := hD.wait k c (by rw [hfin]; exact hqk)
    exact this.2.2
   have dn8 : Bk h8 h.next ((doneL (upd done k (some c)) N.na).map Value.bool) 4 := by
    rw [Nat.zero_add, ← List.map_set] at b8
    unfold doneL at b8 ⊢
    rw [map_upd (c := c) hkN] at b8
    exact b8
   have m68 : Mt (fun b => b = h.next) h6 h8 := ⟨by omega, fun b _ hb => o8 b hb⟩
   have B8 := B6.off m68 fun b hb => by subst hb; exact ⟨by omega, p53, p54, p57⟩
   have R8 : RA h0 q mp bf h.next hh N.na D5 (upd done k (some c)) (del w k) par h8 := by
    refine ⟨dn8, (o8 _ (Ne.symm p55)).trans bf6, ⟨S5, H6.off m68 fun b hb e => (hS5 b hb).2.2.2.2.2.1 e, fun b hb => by have := hS5 b hb; exact ⟨this.1, by omega, this.2.2⟩⟩, p51, by omega, p53, p54, p55, by omega, p57⟩
   refine ⟨k, rfl, hkN, h8, s8, aLevel B8 G hp hs ht hkN ⟨_, rfl, aNext B8 G O bc hC hco hsz hkN rfl fun A4 K4 A5 K5 ol pr D' h10 hR B10 s4 s5 m10 hd1 hd2 => ⟨_, _, _, _, _, _, rfl, ?_⟩⟩⟩
   have z10 := m10.next
   have hll := hR.len
   have hlf := hR.few
   obtain ⟨dn, hdnE⟩ : ∃ dn, dn = upd done k (some c) := ⟨_, rfl⟩
   rw [← hdnE] at dn8
   have H10 : HeapQA h10 S5 hh N.na (del w k) := (H6.off m68 fun b hb e => (hS5 b hb).2.2.2.2.2.1 e).off m10 fun b hb e => (hS5 b hb).2.2.2.1 e
   have dn10 := m10.bk (by omega) p54 dn8
   have bf10 := m10.bk (by omega) (Ne.symm P6) R8.bf_
   obtain ⟨st, hst_⟩ : ∃ st : Nat → (Nat → Option Nat) × (Nat → Nat), ∀ j, st j = relaxL dn k (farP N c ol pr j) (del w k, par) := ⟨_, fun _ => rfl⟩
   have st0 : st 0 = (del w k, par) := hst_ 0
   obtain ⟨E, hE⟩ : ∃ E : Nat → Prop, ∀ b, E b ↔ (b < h0.next ∨ h8.next ≤ b ∨ D5 b) ∧ b < h10.next := ⟨_, fun _ => Iff.rfl⟩
   have s4' : Sa cI E h10 A4 ol.length K4 (ints ol) := s4.mono fun b hb hlt => (hE b).2 ⟨hb, hlt⟩
   have s5' : Sa cI E h10 A5 ol.length K5 pr := s5.mono fun b hb hlt => (hE b).2 ⟨hb, hlt⟩
   have hS5E : ∀ b, S5 b → ¬ E b := fun b hb he => by
    have h1 := (hE b).1 he
    have h2 := hS5 b hb
    rcases h1.1 with h | h | h
    ·omega
    ·omega
    ·exact h2.2.2.2.2.2.2 h
   have hbfE : ¬ E bf := fun he => by
    have h1 := (hE bf).1 he
    rcases h1.1 with h | h | h
    ·omega
    ·omega
    ·exact (B5.dlo bf h).2.2.2.2 rfl
   have hbfD : ¬ D' bf := fun he => (B10.dlo bf he).2.2.2.2 rfl
   obtain ⟨J, hJ⟩ : ∃ J : Nat → Int → AH → Prop, ∀ m x h', J m x h' ↔ ∃ (j : Nat) (S : Nat → Prop), x = j ∧ j ≤ ol.length ∧ m = ol.length - j ∧ h10.next ≤ h'.next ∧ QA h0 N p g o C s t q mp bf cA cK D' h' ∧ HeapQA h' S hh N.na (st j).1 ∧ (∀ b, S b → S5 b ∨ h10.next ≤ b) ∧ Bk h' bf ((parL (st j).2 N.na).map (Value.int .i64)) 3 ∧ Bk h' h.next ((doneL dn N.na).map Value.bool) 4 ∧ Sa cI E h' A4 ol.length K4 (ints ol) ∧ Sa cI E h' A5 ol.length K5 pr := ⟨_, fun _ _ _ => Iff.rfl⟩
   refine ⟨J, ol.length, (hJ _ _ _).2 ⟨0, S5, rfl, Nat.zero_le _, rfl, Nat.le_refl _, B10, by rw [st0]; exact H10, fun b hb => .inl hb, by rw [st0]; exact bf10, dn10, s4', s5'⟩, fun m3 x8 h11 hj => ?_⟩
   obtain ⟨j, S, rfl, hj, rfl, hz11, B11, H11, hS11, bf11, dn11, t4, t5⟩ := (hJ _ _ _).1 hj
   have hSE : ∀ b, S b → ¬ E b := fun b hb he => (hS11 b hb).elim (fun h => hS5E b h he) (fun h => by have := (hE b).1 he; omega)
   have hSo : ∀ b, S b → h0.next ≤ b ∧ b ≠ q ∧ b ≠ mp ∧ b ≠ bf ∧ b ≠ h.next ∧ ¬ D' b := fun b hb => by
    rcases hS11 b hb with h | h
    ·have h2 := hS5 b h
     exact ⟨h2.1, h2.2.2.1, h2.2.2.2.1, h2.2.2.2.2.1, h2.2.2.2.2.2.1, fun hd => (hd2 b hd).elim h2.2.2.2.2.2.2 (fun h => by omega)⟩
    ·exact ⟨by omega, by omega, by omega, by omega, by omega, fun hd => by have := (B10.dlo b hd).2.1; omega⟩
   refine ⟨fun hlt => ?_, fun hge => ?_⟩
   ·obtain ⟨b2, o2, x9, rfl, hF2, hb2, hx9, e9⟩ := t4.int (k := j) (by omega)
    obtain ⟨b3, o3, x10, rfl, hF3, hb3, hx10, e10⟩ := t5.int (k := j) (by omega)
    obtain ⟨bn, hbn, rfl⟩ : ∃ bn : Nat, ol[j]? = some bn ∧ x9 = (bn : Int) := by
     unfold ints at hx9
     rw [List.getElem?_map] at hx9
     cases hv : ol[j]? with
     | none => rw [hv] at hx9; cases hx9
     | some bn => rw [hv] at hx9; exact ⟨bn, rfl, (Option.some.inj hx9).symm⟩
    have hbl := hR.lt bn (List.mem_of_getElem? hbn)
    have hx := hR.nn x10 (List.mem_of_getElem? hx10)
    have hw := NetD.w_bd hok bn
    have hsum := sum3 (c := (c : Int)) (x := x10) (w := N.w bn) (by unfold INF INFN at *; omega) hx (by unfold INF at *; omega)
    have fin : ∀ (h' : AH) (S' : Nat → Prop), Mt (fun b => S b ∨ b = bf) h11 h' → (∀ b, S' b → S b ∨ h11.next ≤ b) → HeapQA h' S' hh N.na (st (j + 1)).1 → Bk h' bf ((parL (st (j + 1)).2 N.na).map (Value.int .i64)) 3 → ∃ x : Int, IntKind.i64.wrap ((j : Int) + 1) = x ∧ ∃ m' : Nat, m' < ol.length - j ∧ J m' x h' := fun h' S' mm hS' H' bf' => by
     have hz := mm.next
     refine ⟨((j + 1 : Nat) : Int), by rw [Int.natCast_succ]; exact wr_ok (by omega) (by omega), ol.length - (j + 1), by omega, (hJ _ _ _).2 ⟨j + 1, S', rfl, by omega, rfl, by omega, B11.off mm fun b hb => ?_, H', fun b hb => (hS' b hb).elim (hS11 b) (fun h => .inr (by omega)), bf', mm.bk (by omega) (fun hs => hs.elim (fun h => (hSo _ h).2.2.2.2.1 rfl) (fun e => p55 e)) dn11, t4.off mm fun b hb hs => hs.elim (fun h => hSE b h hb) (fun e => hbfE (e ▸ hb)), t5.off mm fun b hb hs => hs.elim (fun h => hSE b h hb) (fun e => hbfE (e ▸ hb))⟩⟩
     rcases hb with hb | rfl
     ·have := hSo b hb
      exact ⟨this.1, this.2.1, this.2.2.1, this.2.2.2.2.2⟩
     ·exact ⟨P3, Ne.symm P5, Ne.symm P6, hbfD⟩
    refine ⟨j, rfl, b2, o2, rfl, by omega, _, e9, b3, o3, rfl, by omega, _, e10, _, ldC_of B11.blk rfl, aWeight (G.nw B11.nw) hbl ⟨_, rfl, e10, fun h13 e13 => ?_⟩⟩
    obtain ⟨k13, g13, z13⟩ := news e13
    have same : st (j + 1) = st j → ∃ x : Int, IntKind.i64.wrap ((j : Int) + 1) = x ∧ ∃ m' : Nat, m' < ol.length - j ∧ J m' x h13 := fun e => fin h13 S (Mt.of k13) (fun b hb => .inl hb) (by rw [e]; exact H11.nw k13) (by rw [e]; exact k13.bk (by omega) bf11)
    refine aSum (F := fun b => b = h11.next) (Sa.of_ints (k := .i64) (xs := [(c : Int), x10, N.w bn]) g13 rfl rfl (by omega)) (by omega) ⟨_, rfl, fun hlt2 => ⟨bn, rfl, hbl, (dn bn).isSome, ?_, fun hdt => ?_, fun hdf => ?_⟩, fun hge2 => same ?_⟩
    ·rw [ldC_bk (k13.bk (by omega) dn11), Nat.zero_add]
     simp [doneL, hbl]
    ·refine same ?_
     rw [hst_, hst_, farP_succ, farO, hbn, hx10]
     simp only
     rw [if_pos hlt2]
     show relaxL dn k (farP N c ol pr j ++ [_]) _ = _
     rw [relax_snoc, relax1, if_neg (fun h => by rw [h] at hdt; exact Bool.noConfusion hdt)]
    ·have hnn : dn bn = none := by cases hd : dn bn with
      | none => rfl
      | some y => rw [hd] at hdf; exact Bool.noConfusion hdf
     have nx : st (j + 1) = (putQ (st j).1 bn (sumI [(c : Int), x10, N.w bn]).toNat, if isPut (st j).1 bn (sumI [(c : Int), x10, N.w bn]).toNat then upd (st j).2 bn k else (st j).2) := by
      rw [hst_, hst_, farP_succ, farO, hbn, hx10]
      simp only
      rw [if_pos hlt2]
      show relaxL dn k (farP N c ol pr j ++ [_]) _ = _
      rw [relax_snoc, relax1, if_pos hnn]
     refine hPut (H11.nw k13) hbl (by rw [hsum]; unfold INF at *; omega) (by rw [hsum]; unfold INF at *; omega) fun h15 S15 H15 m15 g15 => ⟨_, rfl, fun hpt => ?_, fun hpf => ?_⟩
     ·have B15 := (B11.next k13).off m15 fun b hb => by have := hSo b hb; exact ⟨this.1, this.2.1, this.2.2.1, this.2.2.2.2.2⟩
      have z15 := m15.next
      have bf15 := m15.bk (by omega) (fun hs => (hSo _ hs).2.2.2.1 rfl) (k13.bk (by omega) bf11)
      obtain ⟨h16, s16, b16, z16, o16⟩ := st_one (v := .int .i64 (k : Int)) bf15 (o := 0 + bn) (by simp [parL]; omega) rfl
      rw [Nat.zero_add, ← List.map_set] at b16
      unfold parL at b16
      rw [map_par hbl] at b16
      have m16 : Mt (fun b => S b ∨ b = bf) h11 h16 := ⟨by omega, fun b hb hn => (o16 b (fun e => hn (.inr e))).trans ((m15.get b (by omega) (fun hs => hn (.inl hs))).trans (k13.get b hb))⟩
      refine ⟨_, _, _, ldC_of B15.blk rfl, bf, 0, rfl, hbl, h16, s16, fin h16 S15 m16 (fun b hb => (g15 b hb).elim .inl (fun h => .inr (by omega))) ?_ ?_⟩
      ·rw [nx]
       refine H15.off (S' := fun b => b = bf) ⟨by omega, fun b _ hn => o16 b hn⟩ fun b hb e => ?_
       rcases g15 b hb with h | h
       ·exact (hSo b h).2.2.2.1 e
       ·omega
      ·rw [nx, hpt]
       exact b16
     ·refine fin h15 S15 ((Mt.of k13).trans m15 fun b hb _ => .inl hb) (fun b hb => (g15 b hb).elim .inl (fun h => .inr (by omega))) (by rw [nx]; exact H15) ?_
      rw [nx, hpf]
      exact m15.bk (by omega) (fun hs => (hSo _ hs).2.2.2.1 rfl) (k13.bk (by omega) bf11)
    ·rw [hst_, hst_, farP_succ, farO, hbn, hx10]
     simp only
     rw [if_neg hge2]
     simp
   ·obtain rfl : j = ol.length := by omega
    have hks : k = s ∨ done s ≠ none := hst.elim (fun ⟨_, e⟩ => .inl (by
     rw [e] at hqk
     by_cases h : k = s
     ·exact h
     ·simp [h] at hqk)) .inr
    have hD' := hD.round (par := par) hqk hcI hmin (farP N c ol pr ol.length) (fun b x _ he hx _ => hR.put hok hcI he hx) (fun b y hb _ => (hR.step hok hcI hb).2.2)
    have hP' := hPr.round hqk hdk (farP N c ol pr ol.length) (fun b y hb _ _ => (hR.step hok hcI hb).2.2) hks
    rw [← hdnE, ← hst_] at hD' hP'
    have hcnt := cntD_upd (c := c) hdk N.na hkN
    have hclt := cntD_lt hdk hkN
    rw [← hcnt, ← hdnE] at hP'
    rw [← hdnE] at hcnt
    refine ⟨N.na - cntD dn N.na, by omega, dn, (st ol.length).1, (st ol.length).2, _, D', B11, ⟨dn11, bf11, ⟨S, H11, fun b hb => ?_⟩, by omega, by omega, by omega, by omega, by omega, by omega, fun hd => ?_⟩, hD', hP', fun b y hb => ?_, fun a y ha => ?_, ?_, .inr ?_, rfl, by omega⟩
    ·have := hSo b hb
     have hlt : b < h11.next := by
      obtain ⟨row, costs', A', K', Bc, Bs, seats, -, -, -, q4⟩ := H11
      exact q4 b hb
     exact ⟨this.1, hlt, this.2.1, this.2.2.1, this.2.2.2.1, this.2.2.2.2.1, this.2.2.2.2.2⟩
    ·exact (hd2 _ hd).elim p57 (fun h => by omega)
    ·rw [hst_] at hb
     rcases relax_inv _ _ hb with ⟨h3, -⟩ | ⟨-, h4, -⟩
     ·simp only [del] at h3
      by_cases e : b = k
      ·simp [e] at h3
      ·rw [if_neg e] at h3; exact hwI b y h3
     ·exact (hR.step hok hcI h4).1
    ·rw [hdnE] at ha
     simp only [upd] at ha
     by_cases e : a = k
     ·omega
     ·rw [if_neg e] at ha; exact hdn a y ha
    ·rw [hdnE]
     simp only [upd]
     rw [if_neg (Ne.symm hkt)]
     exact hdt
    ·rw [hdnE]
     simp only [upd]
     rcases hks with e | e
     ·rw [if_pos e.symm]; intro h; cases h
     ·split
      ·intro h; cases h
      ·exact e
end
end Eva
end
section
open Go Go.RowKit
namespace Eva
section
variable {h : AH} {Q : Value → AH → Prop} {Fa F Fo : Nat → Prop} {N : NetD} {p : List (List Int)} {g o C s t : Nat} {costs : List Int}
theorem aDist (G : GrA h Fa F g N) (O : OvA h Fo o N p) (bc : Bk h C (costs.map (Value.int .i64)) 2) (hC : C < h.next) (hco : CostsOk N p costs) (hsz : N.size p < 1000000) (hs : s < N.na) (ht : t < N.na)
  (hK : ∀ (d : Nat) (h' : AH), Nw h h' → (N.w s < INF → Least INFN N.e s t d) → (INF ≤ N.w s → d = INFN) → d ≤ INFN → Q (.tuple #[.int .i64 d, .nilIface]) h') :
  WC Tryz.prog 11 [.pointer (some ⟨g, 0, none⟩), .pointer (some ⟨o, 0, none⟩), .slice (some ⟨C, 0, none⟩) (N.size p) (cx (N.size p)), .int .i64 s, .int .i64 t] h Q := by
 have hlaw : ∀ {d : Nat}, Least INFN (N.le p costs s t) s t d → Least INFN N.e s t d := fun hd => ((hco.entOk G.ok O.hp).leaps G.ok O.hp hs ht).law hd
 exact w_ask_Dist (w_ask_check (aArcs G ⟨_, rfl, fun h => by omega, fun _ => ⟨fun h => by omega, fun _ => ⟨fun h => by omega, fun _ => ⟨fun h => by omega, fun _ => oSize O ⟨_, rfl, fun _ => ⟨none, rfl, fun _ => aNewQuest G O fun q mp bf cA cK D h' B hbf => ⟨_, rfl, aRun B hbf G O bc hC hco hsz hs ht fun d A n K hops h2 s2 k2 h1 h3 h4 h5 => ⟨_, _, _, _, rfl, hK d h2 k2 (fun hw => hlaw (h1 hw).1) h3 h5⟩⟩, fun t u h => by cases h⟩, fun h => absurd rfl h⟩⟩⟩⟩⟩))
end
end Eva
end
section
open Go Go.RowKit
namespace Eva
theorem tabs_of {cells : List Value} {f : Nat → List Value} {s : Nat} (hs : 0 < s) (hf : ∀ k, (f k).length = s) {n : Nat} (hl : cells.length = n * s) (h : ∀ k, k < n → (cells.drop (k * s)).take s = f k) : cells = tabs f n := by
 apply List.ext_getElem?
 intro i
 by_cases hi : i < n * s
 ·have hd : i / s < n := (Nat.div_lt_iff_lt_mul hs).2 hi
  have hm : i % s < s := Nat.mod_lt _ hs
  have he : i = i / s * s + i % s := by have := Nat.div_add_mod i s; rw [Nat.mul_comm] at this; omega
  have h1 := h _ hd
  have h2 := tabs_get hf hd hm
  rw [he, h2, ← h1, List.getElem?_take, if_pos hm, List.getElem?_drop]
 ·rw [List.getElem?_eq_none (by omega), List.getElem?_eq_none (by rw [tabs_len hf]; omega)]
def mixA (N : NetD) (j k : Nat) : List Value := if k < j then tri3 (swapA (N.arc k)) else tri3 (N.arc k)
theorem mixA_len (N : NetD) (j : Nat) : ∀ k, (mixA N j k).length = 3 := fun k => by unfold mixA; split <;> rfl
theorem mixA_next (N : NetD) (j : Nat) : upd (upd (mixA N j) j ((mixA N j j).set 0 (.int .i64 (N.arc j).2.1))) j ((upd (mixA N j) j ((mixA N j j).set 0 (.int .i64 (N.arc j).2.1)) j).set 1 (.int .i64 (N.arc j).1)) = mixA N (j + 1) := by
 funext k
 unfold upd
 by_cases e : k = j
 ·subst e
  rw [if_pos rfl, if_pos rfl]
  unfold mixA
  rw [if_neg (Nat.lt_irrefl _), if_pos (Nat.lt_succ_self _)]
  rfl
 ·rw [if_neg e, if_neg e]
  unfold mixA
  by_cases e2 : k < j
  ·rw [if_pos e2, if_pos (by omega)]
  ·rw [if_neg e2, if_neg (by omega)]
section
variable {h h' : AH} {F G : Nat → Prop} {Q : Value → AH → Prop} {A Av Aa At Ap : Option Addr} {n K nv Kv na Ka nt Kt np Kp : Nat} {N : NetD} {p : List (List Int)}
theorem aKnown (hK : Q (.bool true) h) : WC Tryz.prog 4 [] h Q := WC.orc (by rfl) hK
theorem OwnP.tabs {α : Type} {r : Rc α} {D : Nat → Prop} {e : TypeId} {xs : List α} {f : Nat → List Value} (o : OwnP r h D e A n K xs) (hn : 0 < n) (hr : 0 < r.size) (hf : ∀ k, (f k).length = r.size) (he : ∀ (k : Nat) (x : α) (cs : List Value), xs[k]? = some x → r.rel (fun b => D b) h cs x → cs = f k) :
  ∃ g, A = some ⟨g, 0, none⟩ ∧ D g ∧ g < h.next ∧ Bk h g (tabs f n) e := by
 obtain ⟨hl, o⟩ := o
 rcases o with ⟨_, h1, _⟩ | ⟨g, cells, rfl, h1, h2, h3, h4, h5, h6, h7⟩
 ·omega
 ·refine ⟨g, rfl, h1, h2, ?_⟩
  have : cells = tabs f n := tabs_of hr hf h4 fun k hk => by
   have hx : xs[k]? = some (xs[k]'(by omega)) := List.getElem?_eq_getElem _
   exact he k _ _ hx (r.mono (fun b hb _ => hb.1) (h7 k _ hx))
  rw [← this]
  exact h3
theorem lawTurned (Z0 : NetZ h F Av nv Kv Aa na Ka At nt Kt N) (hs0 : Sz (Rc.sliceZ cI) G h Ap np Kp p) (hmx : np ≤ 9223372036854775807) {a b : Nat} (ha : a ≤ 65535) (hb : b ≤ 65535) :
  WC Tryz.prog 3 [.agg #[.slice Av nv Kv, .slice Aa na Ka, .slice At nt Kt], .agg #[.slice Ap np Kp], .int .u16 a, .int .u16 b] h (fun v h' => v = .bool true ∧ Nw h h') := by
 have Z := Z0.old
 have hs : Sz (Rc.sliceZ cI) (fun z => z < h.next) h Ap np Kp p := hs0.mono fun z _ hz => hz
 have lv := Z.vs.len
 have la : N.xa.length = na := Z.xa.len
 have lt := Z.ts.len
 have lna : N.na = na := la
 refine w_top_TopTurned fun h1 e1 h2 e2 => ?_
 obtain ⟨k1, g1, z1⟩ := news e1
 obtain ⟨k2, g2, z2⟩ := news e2
 have k12 := k1.trans k2
 have g12 := k2.bk (by omega) g1
 have bN : ∀ {h'}, Nw h2 h' → ldN h' h.next 0 3 = some [.slice Av nv Kv, .slice Aa na Ka, .slice At nt Kt] := fun a => ldN3' (ldC_of (a.bk (by omega) g12) rfl) (ldC_of (a.bk (by omega) g12) rfl) (ldC_of (a.bk (by omega) g12) rfl)
 have bA : ∀ {h'}, Nw h2 h' → ldC h' h.next 1 = some (.slice Aa na Ka) := fun a => ldC_of (a.bk (by omega) g12) rfl
 have bP : ∀ {h'}, Nw h2 h' → ldN h' h1.next 0 1 = some [.slice Ap np Kp] := fun a => ldN1 (ldC_of (a.bk (by omega) g2) rfl)
 refine aKnown ⟨true, rfl, fun _ => ⟨_, _, _, _, _, _, _, _, _, bN (Nw.refl _), _, _, _, bP (Nw.refl _), aMay (Z.nw k12) (hs.nw k12) hmx fun b2 h4 k4 hb2 => ⟨b2, rfl, fun ht => ⟨_, _, _, bA k4, fun _ => ⟨rfl, k12.trans k4⟩, fun hne => ⟨_, _, _, _, _, _, _, _, _, bN k4, ?_⟩⟩, fun _ => ⟨rfl, k12.trans k4⟩⟩⟩, fun h => Bool.noConfusion h⟩
 obtain ⟨hf, ok, hv60, hp10, hp60, hp⟩ := hb2 ht
 have hna : 0 < na := by omega
 have hna3 : na ≤ 300 := by have := hf.2.1; omega
 have hto := NetD.to_lt (N := N) ok (a := 0) (by omega)
 have hnv : 0 < nv := by have := hto.1; unfold NetD.nv at this; omega
 have hnt : 0 < nt := by
  have hv : N.vs[0]? = some (N.vs[0]'(by omega)) := List.getElem?_eq_getElem _
  have := ok.verts_ _ (List.mem_of_getElem? hv)
  omega
 have k14 := k12.trans k4
 have z14 := k14.next
 have z4 := k4.next
 have T := rev_turned ok
 have rok := rev_ok ok
 refine aCopyNet (Z.nw k14) hf hna fun A1 K1 A2 K2 A3 K3 D h5 v5 a5 t5 loV loA loD k5 => ⟨_, _, _, _, _, _, _, _, _, rfl, fun h6 e6 => ?_⟩
 have z5 := k5.next
 obtain ⟨ga, rfl, ga1, ga2, ga3⟩ := a5.tabs (f := mixA N 0) hna (by decide) (mixA_len N 0) (fun k x cs hx hr => by
  have hr' : cs = tri3 x := hr
  have hk : k < N.xa.length := (List.getElem?_eq_some_iff.1 hx).1
  rw [hr']
  unfold mixA NetD.arc
  rw [if_neg (Nat.not_lt_zero _), hx]; rfl)
 obtain ⟨h7, s7, k7, g7, z7⟩ := box_st (vs := [.slice A1 nv K1, .slice (some ⟨ga, 0, none⟩) na K2, .slice A3 nt K3]) e6 rfl (by simp [flat])
 have loGa : h4.next ≤ ga := (loA ga rfl).1
 refine ⟨h7, s7, fun m x h8 => ∃ j : Nat, x = j ∧ j ≤ na ∧ m = na - j ∧ Bk h8 ga (tabs (mixA N j) na) 35 ∧ Mt (fun z => z = ga) h7 h8, na, ⟨0, rfl, Nat.zero_le _, rfl, k7.bk ga2 ga3, Mt.refl _ _⟩, ?_⟩
 rintro m x h8 ⟨j, rfl, hj, hm, b8, m8⟩
 have z8 := m8.next
 have g8 := m8.bk (by omega) (by omega) g7
 refine ⟨_, _, _, ldC_of g8 rfl, fun hlt => ?_, fun hge => ?_⟩
 ·have hjn : j < na := by omega
  have r1 : ldC h8 ga (0 + j * 3 + 1) = some (.int .i64 (N.arc j).2.1) := by
   rw [ldC_bk b8, Nat.zero_add, tabs_get (mixA_len N j) hjn (by omega)]
   unfold mixA; rw [if_neg (Nat.lt_irrefl _)]; rfl
  have r0 : ldC h8 ga (0 + j * 3) = some (.int .i64 (N.arc j).1) := by
   rw [ldC_bk b8, Nat.zero_add]
   have := tabs_get (mixA_len N j) hjn (j := 0) (by omega)
   rw [Nat.add_zero] at this
   rw [this]
   unfold mixA; rw [if_neg (Nat.lt_irrefl _)]; rfl
  obtain ⟨h9, s9, b9, z9, o9⟩ := st_tab1 b8 (mixA_len N j) hjn (j := 0) (by omega) (x := .int .i64 (N.arc j).2.1) rfl
  have hl9 : ∀ k, (upd (mixA N j) j ((mixA N j j).set 0 (.int .i64 (N.arc j).2.1)) k).length = 3 := fun k => by
   unfold upd
   split
   ·rw [List.length_set]; exact mixA_len N j j
   ·exact mixA_len N j k
  obtain ⟨h10, s10, b10, z10, o10⟩ := st_tab1 b9 hl9 hjn (j := 1) (by omega) (x := .int .i64 (N.arc j).1) rfl
  rw [mixA_next] at b10
  have g9 := (o9 _ (by omega)).trans g8
  refine ⟨_, _, _, ldC_of g8 rfl, _, _, _, ldC_of g8 rfl, _, _, _, ldC_of g8 rfl, j, rfl, ga, 0, rfl, hjn, _, r1, _, _, _, ldC_of g8 rfl, ga, 0, rfl, hjn, _, r0, ga, 0, rfl, hjn, h9, s9, ldC_of g9 rfl, rfl, ga, 0, rfl, hjn, h10, s10, _, wrS (by omega), na - (j + 1), by omega, j + 1, rfl, by omega, rfl, b10, m8.then ⟨by omega, fun z _ hn => (o10 z hn).trans (o9 z hn)⟩⟩
 ·obtain rfl : j = na := by omega
  have m58 : Mt (fun z => z = ga) h5 h8 := (Mt.of k7).then m8
  have t8 : OwnP cTab h8 D 38 A3 nt K3 N.ts := t5.off m58 fun z hz _ e => (loA ga rfl).2 (e ▸ hz)
  obtain ⟨htl, t8'⟩ := t8
  rcases t8' with ⟨_, h0, _⟩ | ⟨gt, cells, rfl, gt1, gt2, gt3, gt4, gt5, gt6, gt7⟩
  ·omega
  have loGt : h4.next ≤ gt := loD gt gt1
  have hgat : gt ≠ ga := fun e => (loA ga rfl).2 (e ▸ gt1)
  have gt5' : gt < h5.next := by
   rcases t5.2 with ⟨q, _, _⟩ | ⟨g', c', q, _, q2, _⟩
   ·cases q
   ·injection q with q
    injection q with q
    omega
  have k78 : Nw h h8 := m8.is_nw ((k14.trans k5).trans k7) fun z hz => by omega
  obtain ⟨fT, hfT, hfTc⟩ : ∃ f : Nat → List Value, (∀ k, (f k).length = 3) ∧ ∀ k, k < nt → (cells.drop (k * 3)).take 3 = f k := ⟨fun k => if k < nt then (cells.drop (k * 3)).take 3 else [.bool false, .bool false, .bool false], fun k => by
   simp only
   split
   ·rename_i hk
    have hx : N.ts[k]? = some (N.ts[k]'(by omega)) := List.getElem?_eq_getElem _
    exact cTab.len (gt7 k _ hx)
   ·rfl, fun k hk => by simp only [if_pos hk]⟩
  have hcells : cells = tabs fT nt := tabs_of (by omega) hfT gt4 hfTc
  rw [hcells] at gt3
  refine ⟨fun m x h11 => ∃ (j : Nat) (f : Nat → List Value), x = j ∧ j ≤ nt ∧ m = nt - j ∧ (∀ k, (f k).length = 3) ∧ Bk h11 gt (tabs f nt) 38 ∧ (∀ k t, N.ts[k]? = some t → cTab.rel (fun z => h4.next ≤ z ∧ z ≠ gt) h11 (f k) (if k < j then transT t else t)) ∧ Mt (fun z => z = gt) h8 h11, nt, ⟨0, fT, rfl, Nat.zero_le _, rfl, hfT, gt3, fun k t ht => ?_, Mt.refl _ _⟩, ?_⟩
  ·have hk : k < nt := by have := (List.getElem?_eq_some_iff.1 ht).1; omega
   rw [if_neg (Nat.not_lt_zero _), ← hfTc k hk]
   exact cTab.mono (fun z (hz : D z ∧ z ≠ gt) _ => ⟨loD z hz.1, hz.2⟩) (gt7 k t ht)
  rintro m2 x h11 ⟨i, f, rfl, hi, hm2, hf3, b11, r11, m11⟩
  have z11 := m11.next
  have g11 := m11.bk (by omega) (by omega) g8
  have k011 : Nw h h11 := m11.is_nw k78 fun z hz => by omega
  refine ⟨_, _, _, ldC_of g11 rfl, fun hlt2 => ?_, fun hge2 => ?_⟩
  ·have hin : i < nt := by omega
   have hx : N.ts[i]? = some (N.ts[i]'(by omega)) := List.getElem?_eq_getElem _
   have tok := ok.types_ _ (List.mem_of_getElem? hx)
   have rel := r11 i _ hx
   rw [if_neg (Nat.lt_irrefl _)] at rel
   obtain ⟨A24, n24, K24, hcs, s24⟩ := rel
   have rd : ldN h11 gt (0 + i * 3) 3 = some [.int .i64 (N.ts[i]'(by omega)).1, .int .i64 (N.ts[i]'(by omega)).2.1, .slice A24 n24 K24] := by
    have hm3 : (i + 1) * 3 ≤ nt * 3 := Nat.mul_le_mul_right _ hin
    rw [ldN_bk b11 (by rw [tabs_len hf3]; omega), Nat.zero_add, tabs_cut hf3 nt hin, hcs]
   refine ⟨_, _, _, ldC_of g11 rfl, _, _, _, ldC_of g11 rfl, i, rfl, gt, 0, rfl, hin, _, _, _, _, _, rd, aTransposed s24.z tok fun A25 n25 K25 h12 s12 k12' => ⟨_, _, _, _, _, rfl, ldC_of (k12'.bk (by omega) g11) rfl, rfl, gt, 0, rfl, hin, ?_⟩⟩
   have z12 := k12'.next
   obtain ⟨h13, s13, b13, z13, o13⟩ := st_tab (k12'.bk (by omega) b11) hf3 hin (v := [.int .i64 (N.ts[i]'(by omega)).2.1, .int .i64 (N.ts[i]'(by omega)).1, .slice A25 n25 K25]) rfl (by simp [flat])
   have m13 : Mt (fun z => z = gt) h12 h13 := ⟨by omega, fun z _ hn => o13 z hn⟩
   have m1113 : Mt (fun z => z = gt) h11 h13 := (Mt.of k12').then m13
   refine ⟨h13, s13, _, wrS (by have := hf.2.2.1; omega), nt - (i + 1), by omega, i + 1, _, rfl, by omega, rfl, tabN_len hf3, b13, fun k t ht => ?_, m11.then m1113⟩
   unfold upd
   by_cases e : k = i
   ·subst e
    obtain rfl := Option.some.inj (hx.symm.trans ht)
    rw [if_pos rfl, if_pos (Nat.lt_succ_self _)]
    exact ⟨A25, n25, K25, rfl, (s12.off m13 fun z hz e => by omega).mono fun z hz _ => ⟨by omega, by omega⟩⟩
   ·rw [if_neg e]
    have h9 := cTab.keep (h' := h13) (fun z (hz : h4.next ≤ z ∧ z ≠ gt) hlt => m1113.get z hlt (by omega)) m1113.next (r11 k t ht)
    by_cases e2 : k < i
    ·rw [if_pos e2] at h9; rw [if_pos (by omega)]; exact h9
    ·rw [if_neg e2] at h9; rw [if_neg (by omega)]; exact h9
  ·obtain rfl : i = nt := by omega
   have k211 : Nw h2 h11 := m11.is_nw (m8.is_nw ((k4.trans k5).trans k7) fun z hz => by omega) fun z hz => by omega
   have m511 : Mt (fun z => z = ga ∨ z = gt) h5 h11 := (m58.mono fun z hz _ => .inl hz).then (m11.mono fun z hz _ => .inr hz)
   have Z' : NetZ h11 (fun _ => True) A1 nv K1 (some ⟨ga, 0, none⟩) j K2 (some ⟨gt, 0, none⟩) i K3 N.rev := by
    refine ⟨?_, ?_, ?_⟩
    ·exact ((v5.sa.off m511 fun z hz e => e.elim (fun e => (loV z hz).2.1 e) (fun e => (loV z hz).2.2 (e ▸ gt1))).z).mono fun z _ _ => trivial
    ·refine (Sa.of_bk (r := cTri) (F := fun _ => True) (K := K2) (m11.bk (by omega) (Ne.symm hgat) b8) (by show (N.xa.map swapA).length = _; rw [List.length_map]; exact la) trivial (by omega) fun k x hx => ?_).z
     have hk : k < j := by
      have := (List.getElem?_eq_some_iff.1 hx).1
      have e : N.rev.xa.length = N.xa.length := by show (N.xa.map swapA).length = _; rw [List.length_map]
      omega
     show ((tabs (mixA N j) j).drop (k * 3)).take 3 = _
     rw [tabs_cut (mixA_len N j) j hk]
     unfold mixA
     rw [if_pos hk]
     have hx' : (N.xa.map swapA)[k]? = some x := hx
     rw [List.getElem?_map] at hx'
     unfold NetD.arc
     cases hq : N.xa[k]? with
     | none => rw [hq] at hx'; cases hx'
     | some y => rw [hq] at hx'; obtain rfl := Option.some.inj hx'; rfl
    ·refine (Sa.of_bk (r := Rc.tableZ) (F := fun _ => True) (K := K3) b11 (by show (N.ts.map transT).length = _; rw [List.length_map]; omega) trivial (by omega) fun k x hx => ?_).z
     have hx' : (N.ts.map transT)[k]? = some x := hx
     rw [List.getElem?_map] at hx'
     cases hq : N.ts[k]? with
     | none => rw [hq] at hx'; cases hx'
     | some t =>
      rw [hq] at hx'
      obtain rfl := Option.some.inj hx'
      have hk : k < i := by have := (List.getElem?_eq_some_iff.1 hq).1; omega
      show Rc.tableZ.rel _ h11 (((tabs f i).drop (k * 3)).take 3) _
      rw [tabs_cut hf3 i hk]
      have := r11 k t hq
      rw [if_pos hk] at this
      obtain ⟨A', n', K', q1, q2⟩ := this
      exact ⟨A', n', K', q1, q2.z.mono fun z _ _ => trivial⟩
   have hfr : FewN N.rev := by
    obtain ⟨f1, f2, f3, f4⟩ := hf
    refine ⟨f1, by show (N.xa.map swapA).length ≤ _; rw [List.length_map]; exact f2, by show (N.ts.map transT).length ≤ _; rw [List.length_map]; exact f3, fun t ht => ?_⟩
    obtain ⟨t', ht', rfl⟩ := List.mem_map.1 ht
    have tok := ok.types_ t' ht'
    show (transL t').length ≤ 300
    rw [transL_len]
    have : t'.2.1.toNat * t'.1.toNat ≤ 16 * 16 := Nat.mul_le_mul (by have := tok.outs_; omega) (by have := tok.ins_; omega)
    omega
   refine ⟨_, _, _, _, _, _, _, _, _, bN k211, _, _, _, bP k211, aReady0 (Z.nw k011) hf ok hna (hs.nw k011) hp fun g o C cs h14 R1 k14' => ⟨_, _, _, _, _, _, rfl, fun _ => ⟨_, _, _, _, _, _, _, _, _, ldN3' (ldC_of (k14'.bk (by omega) g11) rfl) (ldC_of (k14'.bk (by omega) g11) rfl) (ldC_of (k14'.bk (by omega) g11) rfl), _, _, _, bP (k211.trans k14'), ?_⟩, fun h => Bool.noConfusion h⟩⟩
   refine aReady0 (Z'.nw k14') hfr rok hna (hs.nw (k011.trans k14')) hp fun g' o' C' ds h15 R2 k15 => ⟨_, _, _, _, _, _, rfl, fun _ => ⟨fun _ => ?_, fun hne => absurd (by rw [T.size]) hne⟩, fun h => Bool.noConfusion h⟩
   obtain ⟨⟨Fa, F1, G1, -, -⟩, O1, cs1, cp1, co1⟩ := R1
   obtain ⟨⟨Fb, F2, G2, -, -⟩, O2, cs2, cp2, co2⟩ := R2
   have hsz : N.size p < 1000000 := size_few hf.2.1 hp.few
   have hsz' : N.rev.size p < 1000000 := size_few hfr.2.1 hp.few
   have hse : N.rev.size p = N.size p := T.size
   refine ⟨fun m x h16 => ∃ i : Nat, x = i ∧ i ≤ N.size p ∧ m = N.size p - i ∧ Nw h15 h16, N.size p, ⟨0, rfl, Nat.zero_le _, rfl, Nw.refl _⟩, ?_⟩
   rintro m3 x h16 ⟨l, rfl, hl, hm3, k16⟩
   have k1416 := k15.trans k16
   have z15 := k15.next
   have z16 := k16.next
   have kk : Nw h2 h16 := (k211.trans k14').trans k1416
   have kh : Nw h h16 := (k011.trans k14').trans k1416
   refine ⟨fun hlt3 => ?_, fun hge3 => ?_⟩
   ·refine oWhere (O1.nw k1416) (by omega) fun k c i1 j1 h17 hat k17 => ⟨_, _, _, _, _, rfl, fun _ h18 e18 => ?_, fun h => Bool.noConfusion h⟩
    obtain ⟨h19, s19, k19, g19, z19⟩ := box_st (vs := [.int .i64 (k : Int), .int .i64 (c : Int), .int .i64 (i1 : Int), .int .i64 (j1 : Int)]) e18 rfl (by simp [flat])
    obtain ⟨q1, q2, q3, q4, q5, q6⟩ := hat
    have k1619 := (k16.trans k17).trans k19
    refine ⟨h19, s19, _, ldC_of g19 rfl, _, ldC_of g19 rfl, _, ldC_of g19 rfl, _, ldC_of g19 rfl, oAt (O2.nw k1619) q1 q2 q3 (i := j1) (j := i1) (by rw [T.ins]; exact q5) (by rw [T.outs]; exact q4) fun h20 k20 => ⟨_, rfl, fun h => absurd h (by omega), fun _ => ⟨fun h => absurd h ?_, fun _ => ?_⟩⟩⟩
    ·have hend := NetD.start_end (N := N.rev) q1 q2 q3
     have hpl := pl_lt (by rw [T.ins]; exact q5 : j1 < (N.rev.ins p k c).length) (by rw [T.outs]; exact q4 : i1 < (N.rev.outs p k c).length)
     unfold NetD.sz at hend
     omega
    ·have hend := NetD.start_end (N := N.rev) q1 q2 q3
     have hpl := pl_lt (by rw [T.ins]; exact q5 : j1 < (N.rev.ins p k c).length) (by rw [T.outs]; exact q4 : i1 < (N.rev.outs p k c).length)
     unfold NetD.sz at hend
     have hl1 := co1.1
     have hl2 := co2.1
     obtain ⟨x1, hx1⟩ : ∃ x1, cs[l]? = some x1 := ⟨_, List.getElem?_eq_getElem (by omega)⟩
     obtain ⟨x2, hx2⟩ : ∃ x2, ds[N.rev.start p k c + (j1 * (N.rev.outs p k c).length + i1)]? = some x2 := ⟨_, List.getElem?_eq_getElem (by omega)⟩
     have he := T.entry co1 co2 q1 q2 q3 (List.getElem?_eq_getElem q4) (List.getElem?_eq_getElem q5)
     have hx : x2 = x1 := by
      rw [T.start, T.outs] at hx2
      rw [← q6] at he
      unfold at_ at he
      rw [hx1, hx2] at he
      exact he
     refine ⟨_, rfl, C', 0, rfl, by omega, x2, ?_, l, rfl, C, 0, rfl, by omega, x1, ?_, fun _ => ⟨_, wrS (by omega), N.size p - (l + 1), by omega, l + 1, rfl, by omega, rfl, k1619.trans k20⟩, fun hne => absurd hx hne⟩
     ·rw [ldC_bk ((k1619.trans k20).bk cp2.2 cs2), Nat.zero_add, List.getElem?_map, hx2]; rfl
     ·rw [ldC_bk (((k15.trans k1619).trans k20).bk cp1.2 cs1), Nat.zero_add, List.getElem?_map, hx1]; rfl
   ·have hwa : IntKind.i64.wrap (a : Int) = (a : Int) := wr_ok (by omega) (by omega)
    have hwb : IntKind.i64.wrap (b : Int) = (b : Int) := wr_ok (by omega) (by omega)
    have hs1 : a % j < j := Nat.mod_lt _ hna
    have ht1 : b % j < j := Nat.mod_lt _ hna
    refine ⟨_, hwa, _, _, _, bA kk, ((a % j : Nat) : Int), by omega, rfl, _, hwb, _, _, _, bA kk, ((b % j : Nat) : Int), by omega, rfl, Z.xa.ok6 hna, ?_⟩
    refine aDist (G1.nw k1416) (O1.nw k1416) (k1416.bk cp1.2 cs1) (by omega) co1 hsz (by omega) (by omega) fun x h24 k24 x1 x2 x3 => ⟨_, none, rfl, ?_⟩
    have k2 := k16.trans k24
    have z24 := k24.next
    refine aDist (G2.nw k2) (O2.nw k2) (k2.bk cp2.2 cs2) (by omega) co2 hsz' (by rw [rev_na]; omega) (by rw [rev_na]; omega) fun y h25 k25 y1 y2 y3 => ⟨_, none, rfl, fun _ => ⟨fun _ => ?_, fun t u h => by cases h⟩, fun t u h => by cases h⟩
    obtain ⟨c1, c2⟩ := turned_costs ok T (by omega) (s := a % j) (t := b % j) (by omega) (by omega) x1 x2 x3 y1 y2 y3
    have kf : Nw h h25 := (kh.trans k24).trans k25
    have kf2 : Nw h2 h25 := (kk.trans k24).trans k25
    have hI : (1152921504606846976 : Int) = (INFN : Int) := rfl
    refine ⟨fun hx => ⟨fun _ => ⟨rfl, kf⟩, fun hne => absurd ?_ hne⟩, fun hx => ⟨fun hy => ⟨fun _ => ⟨rfl, kf⟩, fun hne => absurd ?_ hne⟩, fun hy => ?_⟩⟩
    ·have e1 : x = INFN := by unfold INFN; omega
     have e2 := c1.1 e1
     rw [e1, e2]
    ·have e2 : y = INFN := by unfold INFN; omega
     have e1 := c1.2 e2
     rw [e1, e2]
    ·have hxn : x ≠ INFN := fun e => hx (by rw [e]; rfl)
     obtain ⟨d1, d2, d3, d4, d5⟩ := c2 hxn
     obtain ⟨b7, o7, u1, u2, u3, hA7, -, -, hu, f0, f1, f2⟩ := (Z.nw kf).xa.tri (k := a % j) hs1
     obtain ⟨b8', o8', w1, w2, w3, hA8, -, -, hw, f0', f1', f2'⟩ := (Z.nw kf).xa.tri (k := b % j) ht1
     have e1 : N.w (a % j) = u3 := by unfold NetD.w NetD.arc; rw [if_pos (by omega), hu]; rfl
     have e2 : N.w (b % j) = w3 := by unfold NetD.w NetD.arc; rw [if_pos (by omega), hw]; rfl
     have hxl : x ≤ INFN := x3
     have hyl : y ≤ INFN := y3
     refine ⟨_, _, _, bA kf2, a % j, rfl, b7, o7, hA7, hs1, _, f2, _, wr_ok (by unfold INFN at *; omega) (by unfold INFN at *; omega), _, _, _, bA kf2, b % j, rfl, b8', o8', hA8, ht1, _, f2', _, wr_ok (by unfold INFN at *; omega) (by unfold INFN at *; omega), fun _ => ⟨rfl, kf⟩, fun hne => absurd (by omega) hne⟩
end
end Eva
end
end Go.Proofs.YtbbmelmllcaopaaGreatDoor
