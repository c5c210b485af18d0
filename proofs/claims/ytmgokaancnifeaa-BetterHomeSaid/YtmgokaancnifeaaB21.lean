/-
  Contract of the function literal of better.One, which keeps the best of what it is shown: what it captures, told as one relation. Conditions: the readings; few stops; short rows.
-/
import Derived.Test.YtmgokaancnifeaaB14
import Derived.Test.YtmgokaancnifeaaB3
import Derived.Test.YtmgokaancnifeaaB8
namespace Go.Proofs.Ytmgokaancnifeaa
set_option linter.unusedVariables false
set_option linter.unusedSimpArgs false
set_option linter.unusedSectionVars false
set_option linter.unnecessarySimpa false
open Go Go.RowKit

/-- All but two blocks are as they were. -/
structure But (L B : Nat) (w w' : World) : Prop where
  size : w.heap.size ≤ w'.heap.size
  block : ∀ b, b < w.heap.size → b ≠ L → b ≠ B → w'.heap[b]? = w.heap[b]?
theorem But.refl (L B : Nat) (w : World) : But L B w w := ⟨Nat.le_refl _, fun _ _ _ _ => rfl⟩
theorem But.ext {L B : Nat} {w w' w'' : World} (h : But L B w w') (he : Ext w' w'') : But L B w w'' :=
  ⟨Nat.le_trans h.size he.size, fun b hb h1 h2 => (he.block b (Nat.lt_of_lt_of_le hb h.size)).trans (h.block b hb h1 h2)⟩
theorem But.trans {L B : Nat} {w w' w'' : World} (h : But L B w w') (k : But L B w' w'') : But L B w w'' :=
  ⟨Nat.le_trans h.size k.size, fun b hb h1 h2 => (k.block b (Nat.lt_of_lt_of_le hb h.size) h1 h2).trans (h.block b hb h1 h2)⟩
theorem Ext.but {L B : Nat} {w w' : World} (h : Ext w w') : But L B w w' := ⟨h.size, fun b hb _ _ => h.block b hb⟩
theorem But.sl {α : Type} {r : Rd α} {L B : Nat} {w w' : World} {A : Option Addr} {n c : Nat} {xs : List α} (h : But L B w w') (hs : Sl r (fun b => b ≠ L ∧ b ≠ B) w A n c xs) : Sl r (fun b => b ≠ L ∧ b ≠ B) w' A n c xs :=
  hs.keep fun b hb hlt => h.block b hlt hb.1 hb.2
/-- What has been found, in a variable. -/
def BestIs (L Bs : Nat) (rs : List (List Int)) (w : World) (v : Value) (st : Fnd) : Prop :=
  (v = .slice none 0 0 ∧ st.2 = rs) ∨ ∃ (a : Addr) (k c : Nat), v = .slice (some a) k c ∧ Sl rRows (fun b => b ≠ L ∧ b ≠ Bs) w (some a) k c st.2
/-- What the literal captures: the table, the job, the least cost, the best rounds. -/
structure Fw (dep cap lim : Int) (A : Option Addr) (n c : Nat) (B : Option Addr) (m c2 : Nat) (D L Jb Bs : Nat) (rs : List (List Int)) (wo w : World) (st : Fnd) : Prop where
  ext : Ext wo w
  lo : wo.heap.size ≤ D ∧ wo.heap.size ≤ L ∧ wo.heap.size ≤ Jb ∧ wo.heap.size ≤ Bs
  ne : L ≠ D ∧ L ≠ Jb ∧ L ≠ Bs ∧ Bs ≠ D ∧ Bs ≠ Jb
  hd : Blk w D 25 #[.slice B m c2]
  hj : Blk w Jb 33 #[.int .i64 dep, .int .i64 cap, .int .i64 lim, .slice A n c]
  hl : Blk w L 2 #[.int .i64 st.1]
  hb : ∃ v, Blk w Bs 26 #[v] ∧ BestIs L Bs rs w v st
  bd : 0 ≤ st.1 ∧ st.1 ≤ 1152921504606846976
section
variable {F G H : Nat → Prop} {A B R : Option Addr} {n m p c c2 c3 : Nat} {d : List (List Int)} {rs qs : List (List Int)} {stops : List (Int × Int)} {wo w w' : World} {dep cap lim x : Int} {b : Bool} {D L Jb Bs k c4 : Nat} {st : Fnd} {a : Addr}
theorem Fw.next (h : Fw dep cap lim A n c B m c2 D L Jb Bs rs wo w st) (he : Ext w w') : Fw dep cap lim A n c B m c2 D L Jb Bs rs wo w' st := by
  obtain ⟨v, hv, hb⟩ := h.hb
  refine ⟨h.ext.trans he, h.lo, h.ne, h.hd.ext he, h.hj.ext he, h.hl.ext he, ⟨v, hv.ext he, ?_⟩, h.bd⟩
  rcases hb with hb | ⟨a, k, c, h1, h2⟩
  · exact .inl hb
  · exact .inr ⟨a, k, c, h1, h2.ext he⟩
theorem bTotal_v {J : JD} (h : totalI J rs = x) (hd : Sl rT G w B m c2 J.d) (hr : Sl rRows H w R p c3 rs) : Calls Try.prog 20 #[.slice B m c2, .slice R p c3] w fun e w' => e = .returned (.int .i64 x) ∧ Ext w w' := by
  subst h
  exact bTotal_c J hd hr
theorem bRight_v (h : rightI ⟨d, stops, cap, lim⟩ rs = b) (hs : Sl rP F w A n c stops) (hd : Sl rT G w B m c2 d) (hr : Sl rRows H w R p c3 rs) (hl : ∀ x ∈ stops, 0 ≤ x.2 ∧ x.2 ≤ 2147483648) (hn : n ≤ 1000) (hp : p ≤ 1000) (h1000 : ∀ r ∈ rs, r.length ≤ 1000) :
    Calls Try.prog 19 #[.agg #[.int .i64 dep, .int .i64 cap, .int .i64 lim, .slice A n c], .slice B m c2, .slice R p c3] w fun e w' => e = .returned (.bool b) ∧ Ext w w' := by
  subst h
  exact bRight_c dep cap lim hs hd hr hl hn hp h1000
set_option maxRecDepth 100000 in
set_option maxHeartbeats 8000000 in
theorem try_c (hf : Fw dep cap lim A n c B m c2 D L Jb Bs rs wo w st) (hs : Sl rP F wo A n c stops) (hd : Sl rT G wo B m c2 d) (hl : ∀ x ∈ stops, 0 ≤ x.2 ∧ x.2 ≤ 2147483648) (hn : n ≤ 9)
    (hq : Sl rRows (fun b => b ≠ L ∧ b ≠ Bs) w (some a) k c4 qs) (hk : k ≤ 1000) (h1000 : ∀ r ∈ qs, r.length ≤ 1000) :
    Calls Try.prog 29 #[.slice (some a) k c4, .pointer (some ⟨D, 0, none⟩), .pointer (some ⟨L, 0, none⟩), .pointer (some ⟨Jb, 0, none⟩), .pointer (some ⟨Bs, 0, none⟩)] w fun e w' =>
      e = .returned (.tuple #[]) ∧ Fw dep cap lim A n c B m c2 D L Jb Bs rs wo w' (updI ⟨d, stops, cap, lim⟩ st qs) ∧ But L Bs w w' := by
  obtain ⟨lst, rb⟩ := st
  obtain ⟨J, hJ⟩ : ∃ J : JD, J = ⟨d, stops, cap, lim⟩ := ⟨_, rfl⟩
  have HD : ∀ W, Ext wo W → Sl rT G W B m c2 J.d := fun W h => by rw [hJ]; exact hd.ext h
  have RV : ∀ (W : World), Ext wo W → ∀ (b : Bool), rightI J qs = b → Sl rRows (fun b => b ≠ L ∧ b ≠ Bs) W (some a) k c4 qs →
      Calls Try.prog 19 #[.agg #[.int .i64 dep, .int .i64 cap, .int .i64 lim, .slice A n c], .slice B m c2, .slice (some a) k c4] W fun e w' => e = .returned (.bool b) ∧ Ext W w' := fun W h b hb hq => by
    rw [hJ] at hb
    exact bRight_v hb (hs.ext h) (hd.ext h) hq hl (by omega) hk h1000
  rw [← hJ]
  have HQ := Lib.hid hq
  obtain ⟨x, hx⟩ : ∃ x, totalI J qs = x := ⟨_, rfl⟩
  have hxb := totalI_bd J qs
  rw [hx] at hxb
  obtain ⟨y, hy⟩ : ∃ y, rightI J qs = y := ⟨_, rfl⟩
  have hu : updI J (lst, rb) qs = if x < lst ∧ y = true then (x, qs) else (lst, rb) := by rw [updI, hx, hy]
  have HX := Lib.hid hx
  have HY := Lib.hid hy
  have HU := Lib.hid hu
  have HF := Lib.hid hf
  have n1 := hf.ne
  have e1 : w.cell? ⟨D, 0, none⟩ = some (.slice B m c2) := hf.hd.cell 0
  have bd := hf.bd
  simp only at bd
  clear hJ hs hd hl h1000 hq hx hy hu hf
  go_enter Try.func29, Try.ntmps29
  go_wp2_with fail
  refine (bTotal_v HX.out (HD _ HF.out.ext) HQ.out).mono ?_
  rintro e w1 ⟨rfl, he1⟩
  have hf1 := HF.out.next he1
  have HF1 := Lib.hid hf1
  have HQ1 := Lib.hid (HQ.out.ext he1)
  have d1 : w1.cell? ⟨D, 0, none⟩ = some (.slice B m c2) := hf1.hd.cell 0
  have l1 : w1.cell? ⟨L, 0, none⟩ = some (.int .i64 lst) := hf1.hl.cell 0
  have j0 : w1.cell? ⟨Jb, 0, none⟩ = some (.int .i64 dep) := hf1.hj.cell 0
  have j1 : w1.cell? ⟨Jb, 1, none⟩ = some (.int .i64 cap) := hf1.hj.cell 1
  have j2 : w1.cell? ⟨Jb, 2, none⟩ = some (.int .i64 lim) := hf1.hj.cell 2
  have j3 : w1.cell? ⟨Jb, 3, none⟩ = some (.slice A n c) := hf1.hj.cell 3
  have HB1 : Hid (But L Bs w w1) := Lib.hid he1.but
  clear hf1 e1 HF HQ he1
  by_cases hc : x < lst
  · have q1 : decide (x < lst) = true := by simpa using hc
    go_wp2_with fail
    refine (RV _ HF1.out.ext y HY.out HQ1.out).mono ?_
    rintro e w2 ⟨rfl, he2⟩
    have hf2 := HF1.out.next he2
    have HB2 : Hid (But L Bs w w2) := Lib.hid (HB1.out.ext he2)
    cases y with
    | false =>
      have hu : updI J (lst, rb) qs = (lst, rb) := by rw [HU.out, if_neg (fun h => by cases h.2)]
      rw [← hu] at hf2
      have HF2 := Lib.hid hf2
      clear hf2 hu
      go_wp2_with fail
      all_goals first | (exfalso; omega) | skip
      go_end0
      exact ⟨rfl, HF2.out, HB2.out⟩
    | true =>
      have hu : updI J (lst, rb) qs = (x, qs) := by rw [HU.out, if_pos ⟨hc, rfl⟩]
      obtain ⟨v0, hv0, -⟩ := hf2.hb
      have l2 : w2.cell? ⟨L, 0, none⟩ = some (.int .i64 lst) := hf2.hl.cell 0
      have lf : w2.frozen? ⟨L, 0, none⟩ = false := hf2.hl.frozen 0
      have b2 : w2.cell? ⟨Bs, 0, none⟩ = some v0 := hv0.cell 0
      have bf : w2.frozen? ⟨Bs, 0, none⟩ = false := hv0.frozen 0
      have HP : Hid (∀ W, W = (w2.setCell ⟨L, 0, none⟩ (.int .i64 x)).setCell ⟨Bs, 0, none⟩ (.slice (some a) k c4) → Fw dep cap lim A n c B m c2 D L Jb Bs rs wo W (updI J (lst, rb) qs) ∧ But L Bs w W) := Lib.hid (by
        rintro W rfl
        have hot : ∀ b, b ≠ L → b ≠ Bs → ((w2.setCell ⟨L, 0, none⟩ (.int .i64 x)).setCell ⟨Bs, 0, none⟩ (.slice (some a) k c4)).heap[b]? = w2.heap[b]? := fun b h1 h2 =>
          (Below.heap_setCell _ ⟨Bs, 0, none⟩ _ b (fun he => h2 he)).trans (Below.heap_setCell w2 ⟨L, 0, none⟩ _ b (fun he => h1 he))
        have hq2 : Sl rRows (fun b => b ≠ L ∧ b ≠ Bs) ((w2.setCell ⟨L, 0, none⟩ (.int .i64 x)).setCell ⟨Bs, 0, none⟩ (.slice (some a) k c4)) (some a) k c4 qs :=
          (HQ1.out.ext he2).keep fun b hb _ => hot b hb.1 hb.2
        refine ⟨⟨Ext.st (p := ⟨Bs, 0, none⟩) hf2.lo.2.2.2 (Ext.st (p := ⟨L, 0, none⟩) hf2.lo.2.1 hf2.ext), hf2.lo, hf2.ne, (hot D (fun h => n1.1 h.symm) (fun h => n1.2.2.2.1 h.symm)).trans hf2.hd, (hot Jb (fun h => n1.2.1 h.symm) (fun h => n1.2.2.2.2 h.symm)).trans hf2.hj, ?_, ⟨_, (hv0.far (p := ⟨L, 0, none⟩) (fun h => n1.2.2.1 h.symm) _).set_ 0 _, .inr ⟨a, k, c4, rfl, by rw [hu]; exact hq2⟩⟩, by rw [hu]; exact hxb⟩, ⟨by simp; exact HB2.out.size, fun b hb h1 h2 => (hot b h1 h2).trans (HB2.out.block b hb h1 h2)⟩⟩
        rw [hu]
        exact (hf2.hl.set_ 0 (.int .i64 x)).far (p := ⟨Bs, 0, none⟩) n1.2.2.1 _)
      have n2 := n1.2.2.1
      clear hf2 hu hv0
      go_wp2_with fail
      all_goals first | (exfalso; omega) | skip
      go_end0
      obtain ⟨h8, h9⟩ := HP.out _ rfl
      exact ⟨rfl, h8, h9⟩
  · have q1 : decide (x < lst) = false := by simpa using hc
    have hu : updI J (lst, rb) qs = (lst, rb) := by rw [HU.out, if_neg (fun h => hc h.1)]
    rw [← hu] at HF1
    clear hu
    go_wp2_with fail
    all_goals first | (exfalso; omega) | skip
    go_end0
    exact ⟨rfl, HF1.out, HB1.out⟩
end
end Go.Proofs.Ytmgokaancnifeaa
