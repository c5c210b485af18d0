/-
  Plain law of jobs: what is wrong of a job first. Contracts of job.fault, job.Check and ref28.CheckJob. Conditions: the readings.
-/
import Derived.Test.YtlaobpnbnfoadaaGreatDoorMgB
import Derived.Test.YtlaobpnbnfoadaaGreatDoorErr2
import Derived.Test.YtlaobpnbnfoadaaGreatDoorMgA
import Derived.Test.YtlaobpnbnfoadaaGreatDoorQ6
import Derived.Test.YtlaobpnbnfoadaaGreatDoorMgC
namespace Go.Proofs.YtlaobpnbnfoadaaGreatDoor
set_option linter.unusedVariables false
set_option linter.unusedSimpArgs false
set_option linter.unusedSectionVars false
set_option linter.unnecessarySimpa false
open Go Go.RowKit

abbrev rP : Rd (Int × Int) := Rd.pair .i64 .i64
def jobW : ByteArray := ⟨#[106, 111, 98]⟩
def stopW : ByteArray := ⟨#[115, 116, 111, 112]⟩
def tableW : ByteArray := ⟨#[116, 97, 98, 108, 101]⟩
def stopErr (arcs : Int) : List (Int × Int) → Int → Option (ByteArray × Int × Int)
  | [], _ => none
  | (a, l) :: r, i => if a < 0 ∨ arcs ≤ a then some (stopW, i, 5) else if l < 0 ∨ 2147483648 < l then some (stopW, i, 1) else stopErr arcs r (i + 1)
theorem drop_cons' {α : Type} {l : List α} {k : Nat} {x : α} (h : l[k]? = some x) : l.drop k = x :: l.drop (k + 1) := by
  have hk := (List.getElem?_eq_some_iff.1 h).1
  rw [List.drop_eq_getElem_cons hk, (List.getElem?_eq_some_iff.1 h).2]
theorem stopErr_at {arcs a l i : Int} {stops : List (Int × Int)} {k : Nat} (h : stops[k]? = some (a, l)) : stopErr arcs (stops.drop k) i = if a < 0 ∨ arcs ≤ a then some (stopW, i, 5) else if l < 0 ∨ 2147483648 < l then some (stopW, i, 1) else stopErr arcs (stops.drop (k + 1)) (i + 1) := by
  rw [drop_cons' h]; rfl
def jobErr (arcs dep cap lim : Int) (stops : List (Int × Int)) : Option (ByteArray × Int × Int) :=
  if dep < 0 ∨ arcs ≤ dep then some (jobW, 0, 5) else if cap < 0 ∨ 2147483648 < cap then some (jobW, 1, 1) else if lim < 0 ∨ 1152921504606846976 < lim then some (jobW, 2, 1)
  else if 32 < stops.length then some (jobW, 3, 4) else stopErr arcs stops 1
def ErrPost (r : Option (ByteArray × Int × Int)) (w : World) (e : Ending) (w' : World) : Prop := ∃ v, e = .returned v ∧ ErrIs (fun _ => True) w' v r ∧ Ext w w'
def WrPost (r : Option (ByteArray × Int × Int)) (w : World) (e : Ending) (w' : World) : Prop := ∃ v, e = .returned v ∧ WrIs (fun _ => True) w' v r ∧ Ext w w'
section
variable {F : Nat → Prop} {A : Option Addr} {n c : Nat} {stops : List (Int × Int)} {w : World}
end
end Go.Proofs.YtlaobpnbnfoadaaGreatDoor
/-
  Contract of part.Check: just what the document finds wrong first. Conditions: the readings.
-/
namespace Go.Proofs.YtlaobpnbnfoadaaGreatDoor
set_option linter.unusedVariables false
set_option linter.unusedSimpArgs false
set_option linter.unusedSectionVars false
set_option linter.unnecessarySimpa false
open Go Go.RowKit

def asErr (r : Option (Int × Int)) : Option (ByteArray × Int × Int) := r.map fun x => (partW, x.1, x.2)
theorem partFault_c (at_ e : Int) (w : World) (he : (e == 0) = false) (hw : (Lit.int .i64 e).wf = true) : Calls Tryz.prog 36 #[.string partW, .int .i64 at_, .iface 63 (.int .i64 e)] w (ErrPost (some (partW, at_, e)) w) := by
  go_enter Tryz.func36, Tryz.ntmps36
  go_wp2_with fail
  go_ret
  exact ⟨_, rfl, ⟨he, hw, _, rfl, trivial, (by simp), by simp, by simp⟩, (by repeat (first | exact Ext.refl _ | assumption | refine Ext.al ?_ | refine Ext.dr ?_ | refine Ext.dn ?_ | (refine Ext.st ?_ ?_; · first | omega | (simp; done) | (simp; omega)) | refine Ext.trans ?_ (by assumption)))⟩
theorem over_iff {row : List Int} {n : Nat} {bd : Int} (hin : InRow n row) (hf : FullRow row) : (∃ x ∈ tal row (mostOf row).toNat, bd < x) ↔ ¬ WithinRow row bd := by
  constructor
  · rintro ⟨x, hx, hb⟩ hw
    obtain ⟨c, hc⟩ := List.getElem?_of_mem hx
    have hcl := (List.getElem?_eq_some_iff.1 hc).1
    rw [tal_len] at hcl
    rw [tal_get hcl] at hc
    injection hc with hc
    have := hw c (hf c (by omega) (by omega))
    omega
  · intro h
    unfold WithinRow at h
    simp only [Classical.not_forall] at h
    obtain ⟨c, hc, hb⟩ := h
    have h1 := hin c hc
    have h2 := mostOf_ge hc
    obtain ⟨k, rfl⟩ := Int.eq_ofNat_of_zero_le h1.1
    exact ⟨_, List.mem_of_getElem? (tal_get (zs := row) (m := (mostOf row).toNat) (j := k) (by omega)), by omega⟩
theorem LevelErr.bad {n : Nat} {low : Option (List Int)} {row : List Int} {bound : Option Int} (h : row.length = n) (h2 : ¬ (InRow n row ∧ FullRow row) ∨ ∃ l, low = some l ∧ ¬ NestRow l row) : LevelErr n low row bound 10 := by
  refine .inr (.inl ⟨h, ?_, rfl⟩)
  rcases h2 with h2 | h2
  · by_cases h3 : InRow n row
    · exact .inr (.inl fun h4 => h2 ⟨h3, h4⟩)
    · exact .inl h3
  · exact .inr (.inr h2)
theorem LevelErr.good {n : Nat} {low : Option (List Int)} {row : List Int} {bound : Option Int} (h : row.length = n) (h2 : ¬ (¬ (InRow n row ∧ FullRow row) ∨ ∃ l, low = some l ∧ ¬ NestRow l row)) (h3 : ∀ b, bound = some b → WithinRow row b) : LevelErr n low row bound 0 := by
  have h4 : InRow n row ∧ FullRow row := Classical.not_not.1 fun h => h2 (.inl h)
  exact .inr (.inr (.inr ⟨h, h4.1, h4.2, fun l hl => Classical.not_not.1 fun h => h2 (.inr ⟨l, hl, h⟩), h3, rfl⟩))
theorem LevelErr.over {n : Nat} {low : Option (List Int)} {row : List Int} {bd : Int} (h : row.length = n) (h2 : ¬ (¬ (InRow n row ∧ FullRow row) ∨ ∃ l, low = some l ∧ ¬ NestRow l row)) (h3 : ¬ WithinRow row bd) : LevelErr n low row (some bd) 4 := by
  have h4 : InRow n row ∧ FullRow row := Classical.not_not.1 fun h => h2 (.inl h)
  exact .inr (.inr (.inl ⟨h, h4.1, h4.2, fun l hl => Classical.not_not.1 fun h => h2 (.inr ⟨l, hl, h⟩), ⟨bd, rfl, h3⟩, rfl⟩))
section
variable {F G : Nat → Prop} {A B : Option Addr} {n c m d : Nat} {p : List (List Int)} {bs : List Int} {w : World}
set_option maxRecDepth 100000 in
set_option maxHeartbeats 4000000 in
theorem partCheck_a (nv : Int) (h0 : nv < 0) :
    Calls Tryz.prog 11 #[.int .i64 nv, .agg #[.slice A n c], .slice B m d] w fun e w' => ∃ r, PartWrong nv p bs r ∧ ErrPost (asErr r) w e w' := by
  go_enter Tryz.func11, Tryz.ntmps11
  go_wp2_with fail
  all_goals first | (exfalso; omega) | skip
  (refine (partFault_c _ _ _ rfl (by decide)).mono ?_; rintro e w1 ⟨v, rfl, hv, he1⟩; go_wp2_with fail; go_ret)
  exact ⟨some (0, 1), .inl ⟨h0, rfl⟩, v, rfl, hv, Ext.trans (by repeat (first | exact Ext.refl _ | assumption | refine Ext.al ?_ | refine Ext.dr ?_ | refine Ext.dn ?_ | (refine Ext.st ?_ ?_; · first | omega | (simp; done) | (simp; omega)) | refine Ext.trans ?_ (by assumption))) he1⟩
set_option maxRecDepth 100000 in
set_option maxHeartbeats 4000000 in
theorem partCheck_b (nv : Nat) (hp : Sl rRows F w A n c p) (h1 : 4096 < nv ∨ 6 < n) :
    Calls Tryz.prog 11 #[.int .i64 (nv : Int), .agg #[.slice A n c], .slice B m d] w fun e w' => ∃ r, PartWrong nv p bs r ∧ ErrPost (asErr r) w e w' := by
  have hpl := hp.len
  have hm := hp.max
  have hl := hp.le
  unfold maxLen at hm
  go_enter Tryz.func11, Tryz.ntmps11
  go_wp2_with fail
  all_goals first | (exfalso; omega) | skip
  all_goals (refine (partFault_c _ _ _ rfl (by decide)).mono ?_; rintro e w1 ⟨v, rfl, hv, he1⟩; go_wp2_with fail; go_ret)
  all_goals exact ⟨some (0, 4), .inr (.inl ⟨by omega, by omega, rfl⟩), v, rfl, hv, Ext.trans (by repeat (first | exact Ext.refl _ | assumption | refine Ext.al ?_ | refine Ext.dr ?_ | refine Ext.dn ?_ | (refine Ext.st ?_ ?_; · first | omega | (simp; done) | (simp; omega)) | refine Ext.trans ?_ (by assumption))) he1⟩
set_option maxRecDepth 100000 in
set_option maxHeartbeats 4000000 in
theorem partCheck_c1 (nv : Nat) (hp : Sl rRows F w A n c p) (h1 : ¬ (4096 < nv ∨ 6 < n)) (hn0 : n = 0) :
    Calls Tryz.prog 11 #[.int .i64 (nv : Int), .agg #[.slice A n c], .slice B m d] w fun e w' => ∃ r, PartWrong nv p bs r ∧ ErrPost (asErr r) w e w' := by
  have hpl := hp.len
  have hm := hp.max
  have hl := hp.le
  unfold maxLen at hm
  have hd0 : ((n : Int) == 0) = true := by simp [hn0]
  go_enter Tryz.func11, Tryz.ntmps11
  go_wp2_with fail
  all_goals first | (exfalso; omega) | skip
  all_goals (refine (partFault_c _ _ _ rfl (by decide)).mono ?_; rintro e w1 ⟨v, rfl, hv, he1⟩; go_wp2_with fail; go_ret)
  all_goals exact ⟨some (0, 1), .inr (.inr (.inl ⟨by omega, by omega, by omega, .inl (by omega), rfl⟩)), v, rfl, hv, Ext.trans (by repeat (first | exact Ext.refl _ | assumption | refine Ext.al ?_ | refine Ext.dr ?_ | refine Ext.dn ?_ | (refine Ext.st ?_ ?_; · first | omega | (simp; done) | (simp; omega)) | refine Ext.trans ?_ (by assumption))) he1⟩
set_option maxRecDepth 100000 in
set_option maxHeartbeats 4000000 in
theorem partCheck_c2 (nv : Nat) (hp : Sl rRows F w A n c p) (hb : Sl rI G w B m d bs) (h1 : ¬ (4096 < nv ∨ 6 < n)) (hn0 : ¬ n = 0) (h2 : 0 < m ∧ m ≠ n) :
    Calls Tryz.prog 11 #[.int .i64 (nv : Int), .agg #[.slice A n c], .slice B m d] w fun e w' => ∃ r, PartWrong nv p bs r ∧ ErrPost (asErr r) w e w' := by
  have hpl := hp.len
  have hm := hp.max
  have hl := hp.le
  unfold maxLen at hm
  have hbl := hb.len
  have hd0 : ((n : Int) == 0) = false := by simp; omega
  have hd1 : ((m : Int) != (n : Int)) = true := by simp; omega
  have hm0 : 0 < m := by omega
  go_enter Tryz.func11, Tryz.ntmps11
  go_wp2_with fail
  all_goals first | (exfalso; omega) | skip
  all_goals (refine (partFault_c _ _ _ rfl (by decide)).mono ?_; rintro e w1 ⟨v, rfl, hv, he1⟩; go_wp2_with fail; go_ret)
  all_goals exact ⟨some (0, 1), .inr (.inr (.inl ⟨by omega, by omega, by omega, .inr (by omega), rfl⟩)), v, rfl, hv, Ext.trans (by repeat (first | exact Ext.refl _ | assumption | refine Ext.al ?_ | refine Ext.dr ?_ | refine Ext.dn ?_ | (refine Ext.st ?_ ?_; · first | omega | (simp; done) | (simp; omega)) | refine Ext.trans ?_ (by assumption))) he1⟩
set_option maxRecDepth 100000 in
set_option maxHeartbeats 8000000 in
theorem partCheck_d (nv : Nat) (hp : Sl rRows F w A n c p) (hb : Sl rI G w B m d bs) (h1 : ¬ (4096 < nv ∨ 6 < n)) (hn0 : ¬ n = 0) (h2 : 0 = m) :
    Calls Tryz.prog 11 #[.int .i64 (nv : Int), .agg #[.slice A n c], .slice B m d] w fun e w' => ∃ r, PartWrong nv p bs r ∧ ErrPost (asErr r) w e w' := by
  subst h2
  have hpl := hp.len
  have hm := hp.max
  have hl := hp.le
  unfold maxLen at hm
  have hbl := hb.len
  have hd0 : ((n : Int) == 0) = false := by simp; omega
  have head : (0 : Int) ≤ (nv : Int) ∧ (nv : Int) ≤ 4096 ∧ p.length ≤ 6 ∧ ¬ (p.length = 0 ∨ 0 < bs.length ∧ bs.length ≠ p.length) := by omega
  have HEAD := Lib.hid head
  have HBS := Lib.hid hb
  have HBL := Lib.hid hbl
  have HP := Lib.hid hp
  have hnv : nv ≤ 4096 := by omega
  have hn6 : n ≤ 6 := by omega
  have hn1 : 0 < n := by omega
  have hdn : ((n : Int) != (n : Int)) = false := by simp
  have HPL := Lib.hid hpl
  clear head h1 hpl hbl hp hb
  go_enter Tryz.func11, Tryz.ntmps11
  go_wp2_with fail
  all_goals first | (exfalso; omega) | skip
  go_loopw [45] (fun i wr => ∃ k : Nat, k ≤ n ∧ i = .int .i64 (k : Int) ∧ Ext w wr ∧ w.heap.size + 2 ≤ wr.heap.size ∧ Blk wr w.heap.size 32 #[.slice A n c] ∧ Blk wr (w.heap.size + 1) 25 #[.slice B 0 d] ∧ Hid (∀ j row, j < k → p[j]? = some row → LevelErr nv (lowOf p j) row bs[j]? 0)) (fun i _ => n - (intOf i).toNat)
  case atStart => exact ⟨0, Nat.zero_le _, rfl, (by repeat (first | exact Ext.refl _ | assumption | refine Ext.al ?_ | refine Ext.dr ?_ | refine Ext.dn ?_ | (refine Ext.st ?_ ?_; · first | omega | (simp; done) | (simp; omega)) | refine Ext.trans ?_ (by assumption))), by simp, (by repeat (first | assumption | (refine Blk.new_at ?_; simp; done) | refine Blk.alloc ?_ _ | refine Blk.drewN ?_ _ | (refine Blk.far ?_ ?_ _; rotate_left; · first | omega | (simp; done) | (simp; omega)))), (by repeat (first | assumption | (refine Blk.new_at ?_; simp; done) | refine Blk.alloc ?_ _ | refine Blk.drewN ?_ _ | (refine Blk.far ?_ ?_ _; rotate_left; · first | omega | (simp; done) | (simp; omega)))), Lib.hid fun j _ h => absurd h (by omega)⟩
  case round =>
    obtain ⟨k, hk, rfl, hext, hsz, hb0, hb1, hs1⟩ := hrel
    have q0 : wr.cell? ⟨w.heap.size, 0, none⟩ = some (.slice A n c) := hb0.cell 0
    have q1 : wr.cell? ⟨w.heap.size + 1, 0, none⟩ = some (.slice B 0 d) := hb1.cell 0
    have l0 := hb0.lt
    have l1 := hb1.lt
    by_cases hkn : k < n
    · obtain ⟨b1, o1, A1, n1, c1, row, rfl, hb1', hx, e1, hr⟩ := (HP.out.ext hext).row hkn
      have HLE : Hid (∀ e : Int, e ≠ 0 → LevelErr nv (lowOf p k) row bs[k]? e → PartWrong nv p bs (some ((k : Int) + 1, e))) := Lib.hid fun e h h' => .inr (.inr (.inr (.inl ⟨HEAD.out.1, HEAD.out.2.1, HEAD.out.2.2.1, HEAD.out.2.2.2, k, row, e, hx.out, h, by simpa using h', by simpa using hs1.out, rfl⟩)))
      have hrl := hr.len
      have HR := Lib.hid hr
      by_cases hlen : n1 = nv
      · subst hlen
        have hd1 : ((n1 : Int) != (n1 : Int)) = false := by simp
        go_wp2_with fail
        all_goals first | (exfalso; omega) | skip
        refine (tally_c (HR.out.ext (by repeat (first | exact Ext.refl _ | assumption | refine Ext.al ?_ | refine Ext.dr ?_ | refine Ext.dn ?_ | (refine Ext.st ?_ ?_; · first | omega | (simp; done) | (simp; omega)) | refine Ext.trans ?_ (by assumption)))) (by omega)).mono ?_
        rintro e w1 ⟨A2, n2, c2, ok, xs, rfl, hok, hxs, hsl, he1⟩
        have hxt : Ext wr w1 := Ext.trans (by repeat (first | exact Ext.refl _ | assumption | refine Ext.al ?_ | refine Ext.dr ?_ | refine Ext.dn ?_ | (refine Ext.st ?_ ?_; · first | omega | (simp; done) | (simp; omega)) | refine Ext.trans ?_ (by assumption))) he1
        have hext1 : Ext w w1 := hext.trans hxt
        have hB0 := hb0.ext hxt
        have hB1 := hb1.ext hxt
        have q01 : w1.cell? ⟨w.heap.size, 0, none⟩ = some (.slice (some ⟨b1, o1, none⟩) n c) := hB0.cell 0
        have q11 : w1.cell? ⟨w.heap.size + 1, 0, none⟩ = some (.slice B 0 d) := hB1.cell 0
        have qi : w1.cell? ⟨wr.heap.size, 0, none⟩ = some (.int .i64 k) := (he1.cell (p := ⟨wr.heap.size, 0, none⟩) (by simp)).trans (by simp)
        have sz1 : wr.heap.size < w1.heap.size := by have := he1.size; simp at this; omega
        have HOK := Lib.hid hok
        have HXS := Lib.hid hxs
        have HSL := Lib.hid hsl
        have HR1 := Lib.hid (HR.out.ext hxt)
        obtain ⟨ib, hib⟩ : ∃ ib, wr.heap.size = ib := ⟨_, rfl⟩
        rw [hib] at hsz l0 l1 sz1 qi ⊢
        clear hxt hext hb0 hb1 q0 q1 e1 he1 hok hxs hsl hb1' hr
        have l01 := hB0.lt
        have l11 := hB1.lt
        rw [hrl] at HOK
        go_upto_region 14 with fail
        go_cut [79] (fun tv wc => ∃ t : Bool, tv = .bool t ∧ Hid (t = true ↔ (¬ (InRow n1 row ∧ FullRow row) ∨ ∃ l, lowOf p k = some l ∧ ¬ NestRow l row)) ∧ Ext w1 wc)
        case first =>
          cases ok with
          | false =>
            have HN : Hid (¬ (InRow n1 row ∧ FullRow row)) := Lib.hid fun h => by have := HOK.out.2 h; cases this
            go_wp2_with fail
            all_goals first | (exfalso; omega) | skip
            go_meet
            exact ⟨true, rfl, Lib.hid ⟨fun _ => .inl HN.out, fun _ => rfl⟩, Ext.refl _⟩
          | true =>
            have HY : Hid (InRow n1 row ∧ FullRow row) := Lib.hid (HOK.out.1 rfl)
            cases k with
            | zero =>
              go_wp2_with fail
              all_goals first | (exfalso; omega) | skip
              go_meet
              exact ⟨false, rfl, Lib.hid ⟨fun h => (by cases h), fun h => h.elim (fun h => absurd HY.out h) (fun ⟨l, h1, h2⟩ => by simp [lowOf] at h1)⟩, Ext.refl _⟩
            | succ j =>
              obtain ⟨b3, o3, A3, n3, c3, low, hA3, hb3, hx3, e3, hr3⟩ := (HP.out.ext hext1).row (k := j) (by omega)
              injection hA3 with hA3
              injection hA3 with ea eb
              subst ea eb
              have hlo : Hid (lowOf p (j + 1) = some low) := Lib.hid (by simp [lowOf, hx3.out])
              have h0 := level_ok (hs1.out j low (by omega) hx3.out)
              have hlow := h0.1
              rw [hr3.len] at hlow
              subst hlow
              have HC := Lib.hid (nested_c hr3 HR1.out (by omega) h0.2.1 h0.2.2.1 HY.out.1)
              clear h0
              go_wp2_with fail
              all_goals first | (exfalso; omega) | skip
              refine HC.out.mono ?_
              rintro e w2 ⟨t, rfl, ht, he2⟩
              have HT := Lib.hid ht
              clear ht
              go_wp2_with fail
              all_goals first | (exfalso; omega) | skip
              go_meet
              refine ⟨!t, rfl, Lib.hid ?_, he2⟩
              constructor
              · intro h
                refine .inr ⟨low, hlo.out, fun h2 => ?_⟩
                have := HT.out.2 h2
                subst this
                cases h
              · rintro (h | ⟨l, h3, h4⟩)
                · exact absurd HY.out h
                · rw [hlo.out] at h3
                  injection h3 with h3
                  subst h3
                  cases t
                  · rfl
                  · exact absurd (HT.out.1 rfl) h4
        case rest =>
          obtain ⟨t, rfl, ht, hxc⟩ := hcut
          obtain ⟨w2, hw2⟩ : ∃ w2 : World, w2 = wc := ⟨_, rfl⟩
          rw [← hw2] at hxc ⊢
          have hext2 : Ext w w2 := hext1.trans hxc
          have hB02 := hB0.ext hxc
          have hB12 := hB1.ext hxc
          have q02 : w2.cell? ⟨w.heap.size, 0, none⟩ = some (.slice (some ⟨b1, o1, none⟩) n c) := hB02.cell 0
          have q12 : w2.cell? ⟨w.heap.size + 1, 0, none⟩ = some (.slice B 0 d) := hB12.cell 0
          have qi2 : w2.cell? ⟨ib, 0, none⟩ = some (.int .i64 k) := (hxc.cell (p := ⟨ib, 0, none⟩) sz1).trans qi
          have sz2 : ib < w2.heap.size := Nat.lt_of_lt_of_le sz1 hxc.size
          have l02 := hB02.lt
          have l12 := hB12.lt
          have HSL2 := Lib.hid (HSL.out.ext hxc)
          clear hw2 hB0 hB1 q01 q11 qi sz1 l01 l11 hxc hext1 HSL
          cases t with
          | true =>
            have HE := Lib.hid (HLE.out 10 (by decide) (.bad hrl (ht.out.1 rfl)))
            clear ht
            go_wp2_with fail
            all_goals first | (exfalso; omega) | skip
            (refine (partFault_c _ _ _ rfl (by decide)).mono ?_; rintro e w1 ⟨v, rfl, hv, he1⟩; go_wp2_with fail; go_ret)
            exact ⟨_, HE.out, v, rfl, hv, Ext.trans (by repeat (first | exact Ext.refl _ | assumption | refine Ext.al ?_ | refine Ext.dr ?_ | refine Ext.dn ?_ | (refine Ext.st ?_ ?_; · first | omega | (simp; done) | (simp; omega)) | refine Ext.trans ?_ (by assumption))) he1⟩
          | false =>
            have HG : Hid (¬ (¬ (InRow n1 row ∧ FullRow row) ∨ ∃ l, lowOf p k = some l ∧ ¬ NestRow l row)) := Lib.hid fun h => by have := ht.out.2 h; cases this
            clear ht
            have HLV : Hid (LevelErr n1 (lowOf p k) row bs[k]? 0) := Lib.hid (.good hrl HG.out fun b hb => by rw [List.eq_nil_of_length_eq_zero HBL.out] at hb; simp at hb)
            have HS2 : Hid (∀ j row', j < k + 1 → p[j]? = some row' → LevelErr n1 (lowOf p j) row' bs[j]? 0) := Lib.hid (fun j row' hj hr' => by
              by_cases e : j = k
              · subst e; rw [hx.out] at hr'; injection hr' with hr'; subst hr'; exact HLV.out
              · exact hs1.out j row' (by omega) hr')
            go_wp2_with fail
            all_goals first | (exfalso; omega) | skip
            go_roundw
            case rel => exact ⟨k + 1, by omega, by go_num, hext2, by omega, hB02, hB12, HS2⟩
            case measure => simp [intOf]; omega
      · have hd1 : ((n1 : Int) != (nv : Int)) = true := by simp; omega
        have HE := Lib.hid (HLE.out 1 (by decide) (.inl ⟨by rw [hrl]; exact hlen, rfl⟩))
        go_wp2_with fail
        all_goals first | (exfalso; omega) | skip
        (refine (partFault_c _ _ _ rfl (by decide)).mono ?_; rintro e w1 ⟨v, rfl, hv, he1⟩; go_wp2_with fail; go_ret)
        exact ⟨_, HE.out, v, rfl, hv, Ext.trans (by repeat (first | exact Ext.refl _ | assumption | refine Ext.al ?_ | refine Ext.dr ?_ | refine Ext.dn ?_ | (refine Ext.st ?_ ?_; · first | omega | (simp; done) | (simp; omega)) | refine Ext.trans ?_ (by assumption))) he1⟩
    · obtain rfl : k = n := by omega
      go_wp2_with fail
      all_goals first | (exfalso; omega) | skip
      go_ret
      exact ⟨none, .inr (.inr (.inr (.inr ⟨HEAD.out.1, HEAD.out.2.1, HEAD.out.2.2.1, HEAD.out.2.2.2, fun j row hj => hs1.out j row (by rw [← HPL.out]; exact (List.getElem?_eq_some_iff.1 hj).1) hj, rfl⟩))), .nilIface, rfl, rfl, hext⟩
set_option maxRecDepth 100000 in
set_option maxHeartbeats 8000000 in
theorem partCheck_e (nv : Nat) (hp : Sl rRows F w A n c p) (hb : Sl rI G w B m d bs) (h1 : ¬ (4096 < nv ∨ 6 < n)) (hn0 : ¬ n = 0) (h2 : n = m) :
    Calls Tryz.prog 11 #[.int .i64 (nv : Int), .agg #[.slice A n c], .slice B m d] w fun e w' => ∃ r, PartWrong nv p bs r ∧ ErrPost (asErr r) w e w' := by
  subst h2
  have hpl := hp.len
  have hm := hp.max
  have hl := hp.le
  unfold maxLen at hm
  have hbl := hb.len
  have hd0 : ((n : Int) == 0) = false := by simp; omega
  have head : (0 : Int) ≤ (nv : Int) ∧ (nv : Int) ≤ 4096 ∧ p.length ≤ 6 ∧ ¬ (p.length = 0 ∨ 0 < bs.length ∧ bs.length ≠ p.length) := by omega
  have HEAD := Lib.hid head
  have HBS := Lib.hid hb
  have HBL := Lib.hid hbl
  have HP := Lib.hid hp
  have hnv : nv ≤ 4096 := by omega
  have hn6 : n ≤ 6 := by omega
  have hn1 : 0 < n := by omega
  have hdn : ((n : Int) != (n : Int)) = false := by simp
  have HPL := Lib.hid hpl
  clear head h1 hpl hbl hp hb
  go_enter Tryz.func11, Tryz.ntmps11
  go_wp2_with fail
  all_goals first | (exfalso; omega) | skip
  go_loopw [45] (fun i wr => ∃ k : Nat, k ≤ n ∧ i = .int .i64 (k : Int) ∧ Ext w wr ∧ w.heap.size + 2 ≤ wr.heap.size ∧ Blk wr w.heap.size 32 #[.slice A n c] ∧ Blk wr (w.heap.size + 1) 25 #[.slice B n d] ∧ Hid (∀ j row, j < k → p[j]? = some row → LevelErr nv (lowOf p j) row bs[j]? 0)) (fun i _ => n - (intOf i).toNat)
  case atStart => exact ⟨0, Nat.zero_le _, rfl, (by repeat (first | exact Ext.refl _ | assumption | refine Ext.al ?_ | refine Ext.dr ?_ | refine Ext.dn ?_ | (refine Ext.st ?_ ?_; · first | omega | (simp; done) | (simp; omega)) | refine Ext.trans ?_ (by assumption))), by simp, (by repeat (first | assumption | (refine Blk.new_at ?_; simp; done) | refine Blk.alloc ?_ _ | refine Blk.drewN ?_ _ | (refine Blk.far ?_ ?_ _; rotate_left; · first | omega | (simp; done) | (simp; omega)))), (by repeat (first | assumption | (refine Blk.new_at ?_; simp; done) | refine Blk.alloc ?_ _ | refine Blk.drewN ?_ _ | (refine Blk.far ?_ ?_ _; rotate_left; · first | omega | (simp; done) | (simp; omega)))), Lib.hid fun j _ h => absurd h (by omega)⟩
  case round =>
    obtain ⟨k, hk, rfl, hext, hsz, hb0, hb1, hs1⟩ := hrel
    have q0 : wr.cell? ⟨w.heap.size, 0, none⟩ = some (.slice A n c) := hb0.cell 0
    have q1 : wr.cell? ⟨w.heap.size + 1, 0, none⟩ = some (.slice B n d) := hb1.cell 0
    have l0 := hb0.lt
    have l1 := hb1.lt
    by_cases hkn : k < n
    · obtain ⟨b1, o1, A1, n1, c1, row, rfl, hb1', hx, e1, hr⟩ := (HP.out.ext hext).row hkn
      have HLE : Hid (∀ e : Int, e ≠ 0 → LevelErr nv (lowOf p k) row bs[k]? e → PartWrong nv p bs (some ((k : Int) + 1, e))) := Lib.hid fun e h h' => .inr (.inr (.inr (.inl ⟨HEAD.out.1, HEAD.out.2.1, HEAD.out.2.2.1, HEAD.out.2.2.2, k, row, e, hx.out, h, by simpa using h', by simpa using hs1.out, rfl⟩)))
      have hrl := hr.len
      have HR := Lib.hid hr
      by_cases hlen : n1 = nv
      · subst hlen
        have hd1 : ((n1 : Int) != (n1 : Int)) = false := by simp
        go_wp2_with fail
        all_goals first | (exfalso; omega) | skip
        refine (tally_c (HR.out.ext (by repeat (first | exact Ext.refl _ | assumption | refine Ext.al ?_ | refine Ext.dr ?_ | refine Ext.dn ?_ | (refine Ext.st ?_ ?_; · first | omega | (simp; done) | (simp; omega)) | refine Ext.trans ?_ (by assumption)))) (by omega)).mono ?_
        rintro e w1 ⟨A2, n2, c2, ok, xs, rfl, hok, hxs, hsl, he1⟩
        have hxt : Ext wr w1 := Ext.trans (by repeat (first | exact Ext.refl _ | assumption | refine Ext.al ?_ | refine Ext.dr ?_ | refine Ext.dn ?_ | (refine Ext.st ?_ ?_; · first | omega | (simp; done) | (simp; omega)) | refine Ext.trans ?_ (by assumption))) he1
        have hext1 : Ext w w1 := hext.trans hxt
        have hB0 := hb0.ext hxt
        have hB1 := hb1.ext hxt
        have q01 : w1.cell? ⟨w.heap.size, 0, none⟩ = some (.slice (some ⟨b1, o1, none⟩) n c) := hB0.cell 0
        have q11 : w1.cell? ⟨w.heap.size + 1, 0, none⟩ = some (.slice B n d) := hB1.cell 0
        have qi : w1.cell? ⟨wr.heap.size, 0, none⟩ = some (.int .i64 k) := (he1.cell (p := ⟨wr.heap.size, 0, none⟩) (by simp)).trans (by simp)
        have sz1 : wr.heap.size < w1.heap.size := by have := he1.size; simp at this; omega
        have HOK := Lib.hid hok
        have HXS := Lib.hid hxs
        have HSL := Lib.hid hsl
        have HR1 := Lib.hid (HR.out.ext hxt)
        obtain ⟨ib, hib⟩ : ∃ ib, wr.heap.size = ib := ⟨_, rfl⟩
        rw [hib] at hsz l0 l1 sz1 qi ⊢
        clear hxt hext hb0 hb1 q0 q1 e1 he1 hok hxs hsl hb1' hr
        have l01 := hB0.lt
        have l11 := hB1.lt
        rw [hrl] at HOK
        go_upto_region 14 with fail
        go_cut [79] (fun tv wc => ∃ t : Bool, tv = .bool t ∧ Hid (t = true ↔ (¬ (InRow n1 row ∧ FullRow row) ∨ ∃ l, lowOf p k = some l ∧ ¬ NestRow l row)) ∧ Ext w1 wc)
        case first =>
          cases ok with
          | false =>
            have HN : Hid (¬ (InRow n1 row ∧ FullRow row)) := Lib.hid fun h => by have := HOK.out.2 h; cases this
            go_wp2_with fail
            all_goals first | (exfalso; omega) | skip
            go_meet
            exact ⟨true, rfl, Lib.hid ⟨fun _ => .inl HN.out, fun _ => rfl⟩, Ext.refl _⟩
          | true =>
            have HY : Hid (InRow n1 row ∧ FullRow row) := Lib.hid (HOK.out.1 rfl)
            cases k with
            | zero =>
              go_wp2_with fail
              all_goals first | (exfalso; omega) | skip
              go_meet
              exact ⟨false, rfl, Lib.hid ⟨fun h => (by cases h), fun h => h.elim (fun h => absurd HY.out h) (fun ⟨l, h1, h2⟩ => by simp [lowOf] at h1)⟩, Ext.refl _⟩
            | succ j =>
              obtain ⟨b3, o3, A3, n3, c3, low, hA3, hb3, hx3, e3, hr3⟩ := (HP.out.ext hext1).row (k := j) (by omega)
              injection hA3 with hA3
              injection hA3 with ea eb
              subst ea eb
              have hlo : Hid (lowOf p (j + 1) = some low) := Lib.hid (by simp [lowOf, hx3.out])
              have h0 := level_ok (hs1.out j low (by omega) hx3.out)
              have hlow := h0.1
              rw [hr3.len] at hlow
              subst hlow
              have HC := Lib.hid (nested_c hr3 HR1.out (by omega) h0.2.1 h0.2.2.1 HY.out.1)
              clear h0
              go_wp2_with fail
              all_goals first | (exfalso; omega) | skip
              refine HC.out.mono ?_
              rintro e w2 ⟨t, rfl, ht, he2⟩
              have HT := Lib.hid ht
              clear ht
              go_wp2_with fail
              all_goals first | (exfalso; omega) | skip
              go_meet
              refine ⟨!t, rfl, Lib.hid ?_, he2⟩
              constructor
              · intro h
                refine .inr ⟨low, hlo.out, fun h2 => ?_⟩
                have := HT.out.2 h2
                subst this
                cases h
              · rintro (h | ⟨l, h3, h4⟩)
                · exact absurd HY.out h
                · rw [hlo.out] at h3
                  injection h3 with h3
                  subst h3
                  cases t
                  · rfl
                  · exact absurd (HT.out.1 rfl) h4
        case rest =>
          obtain ⟨t, rfl, ht, hxc⟩ := hcut
          obtain ⟨w2, hw2⟩ : ∃ w2 : World, w2 = wc := ⟨_, rfl⟩
          rw [← hw2] at hxc ⊢
          have hext2 : Ext w w2 := hext1.trans hxc
          have hB02 := hB0.ext hxc
          have hB12 := hB1.ext hxc
          have q02 : w2.cell? ⟨w.heap.size, 0, none⟩ = some (.slice (some ⟨b1, o1, none⟩) n c) := hB02.cell 0
          have q12 : w2.cell? ⟨w.heap.size + 1, 0, none⟩ = some (.slice B n d) := hB12.cell 0
          have qi2 : w2.cell? ⟨ib, 0, none⟩ = some (.int .i64 k) := (hxc.cell (p := ⟨ib, 0, none⟩) sz1).trans qi
          have sz2 : ib < w2.heap.size := Nat.lt_of_lt_of_le sz1 hxc.size
          have l02 := hB02.lt
          have l12 := hB12.lt
          have HSL2 := Lib.hid (HSL.out.ext hxc)
          clear hw2 hB0 hB1 q01 q11 qi sz1 l01 l11 hxc hext1 HSL
          cases t with
          | true =>
            have HE := Lib.hid (HLE.out 10 (by decide) (.bad hrl (ht.out.1 rfl)))
            clear ht
            go_wp2_with fail
            all_goals first | (exfalso; omega) | skip
            (refine (partFault_c _ _ _ rfl (by decide)).mono ?_; rintro e w1 ⟨v, rfl, hv, he1⟩; go_wp2_with fail; go_ret)
            exact ⟨_, HE.out, v, rfl, hv, Ext.trans (by repeat (first | exact Ext.refl _ | assumption | refine Ext.al ?_ | refine Ext.dr ?_ | refine Ext.dn ?_ | (refine Ext.st ?_ ?_; · first | omega | (simp; done) | (simp; omega)) | refine Ext.trans ?_ (by assumption))) he1⟩
          | false =>
            have HG : Hid (¬ (¬ (InRow n1 row ∧ FullRow row) ∨ ∃ l, lowOf p k = some l ∧ ¬ NestRow l row)) := Lib.hid fun h => by have := ht.out.2 h; cases this
            clear ht
            obtain ⟨bd, hbd⟩ : ∃ bd, bs[k]? = some bd := ⟨_, List.getElem?_eq_getElem (by rw [HBL.out]; exact hkn)⟩
            have HBD : Hid (bs[k]? = some bd) := Lib.hid hbd
            have HB := Lib.hid (Bd.mk q12 qi2 ((HBS.out.ext hext2).mono (G := fun _ => True) fun _ _ _ => trivial) hbd)
            have HOV : Hid ((∃ x ∈ xs, bd < x) ↔ ¬ WithinRow row bd) := Lib.hid (by
              have hg := Classical.not_not.1 fun h => HG.out (.inl h)
              rw [HXS.out (HOK.out.2 hg)]
              exact over_iff hg.1 hg.2)
            clear hbd
            go_wp2_with fail
            all_goals first | (exfalso; omega) | skip
            refine (containsOver_c HSL2.out HB.out).mono ?_
            rintro e w3 ⟨t, rfl, ht, he3⟩
            have hext3 : Ext w w3 := hext2.trans he3
            have hB03 := hB02.ext he3
            have hB13 := hB12.ext he3
            have q03 : w3.cell? ⟨w.heap.size, 0, none⟩ = some (.slice (some ⟨b1, o1, none⟩) n c) := hB03.cell 0
            have q13 : w3.cell? ⟨w.heap.size + 1, 0, none⟩ = some (.slice B n d) := hB13.cell 0
            have qi3 : w3.cell? ⟨ib, 0, none⟩ = some (.int .i64 k) := (he3.cell (p := ⟨ib, 0, none⟩) sz2).trans qi2
            have sz3 : ib < w3.heap.size := Nat.lt_of_lt_of_le sz2 he3.size
            have HT := Lib.hid ht
            clear ht q02 q12 qi2 hB02 hB12 l02 l12 sz2 hext2 he3
            cases t with
            | true =>
              have HE : Hid (PartWrong n1 p bs (some ((k : Int) + 1, 4))) := Lib.hid (HLE.out 4 (by decide) (by rw [HBD.out]; exact .over hrl HG.out (HOV.out.1 (HT.out.1 rfl))))
              go_wp2_with fail
              all_goals first | (exfalso; omega) | skip
              (refine (partFault_c _ _ _ rfl (by decide)).mono ?_; rintro e w1 ⟨v, rfl, hv, he1⟩; go_wp2_with fail; go_ret)
              exact ⟨_, HE.out, v, rfl, hv, Ext.trans (by repeat (first | exact Ext.refl _ | assumption | refine Ext.al ?_ | refine Ext.dr ?_ | refine Ext.dn ?_ | (refine Ext.st ?_ ?_; · first | omega | (simp; done) | (simp; omega)) | refine Ext.trans ?_ (by assumption))) he1⟩
            | false =>
              have HLV : Hid (LevelErr n1 (lowOf p k) row bs[k]? 0) := Lib.hid (.good hrl HG.out fun b hb => by
                rw [HBD.out] at hb
                injection hb with hb
                subst hb
                exact Classical.not_not.1 fun h => by have := HT.out.2 (HOV.out.2 h); cases this)
              have HS2 : Hid (∀ j row', j < k + 1 → p[j]? = some row' → LevelErr n1 (lowOf p j) row' bs[j]? 0) := Lib.hid (fun j row' hj hr' => by
                by_cases e : j = k
                · subst e; rw [hx.out] at hr'; injection hr' with hr'; subst hr'; exact HLV.out
                · exact hs1.out j row' (by omega) hr')
              go_wp2_with fail
              all_goals first | (exfalso; omega) | skip
              go_roundw
              case rel => exact ⟨k + 1, by omega, by go_num, hext3, by omega, hB03, hB13, HS2⟩
              case measure => simp [intOf]; omega
      · have hd1 : ((n1 : Int) != (nv : Int)) = true := by simp; omega
        have HE := Lib.hid (HLE.out 1 (by decide) (.inl ⟨by rw [hrl]; exact hlen, rfl⟩))
        go_wp2_with fail
        all_goals first | (exfalso; omega) | skip
        (refine (partFault_c _ _ _ rfl (by decide)).mono ?_; rintro e w1 ⟨v, rfl, hv, he1⟩; go_wp2_with fail; go_ret)
        exact ⟨_, HE.out, v, rfl, hv, Ext.trans (by repeat (first | exact Ext.refl _ | assumption | refine Ext.al ?_ | refine Ext.dr ?_ | refine Ext.dn ?_ | (refine Ext.st ?_ ?_; · first | omega | (simp; done) | (simp; omega)) | refine Ext.trans ?_ (by assumption))) he1⟩
    · obtain rfl : k = n := by omega
      go_wp2_with fail
      all_goals first | (exfalso; omega) | skip
      go_ret
      exact ⟨none, .inr (.inr (.inr (.inr ⟨HEAD.out.1, HEAD.out.2.1, HEAD.out.2.2.1, HEAD.out.2.2.2, fun j row hj => hs1.out j row (by rw [← HPL.out]; exact (List.getElem?_eq_some_iff.1 hj).1) hj, rfl⟩))), .nilIface, rfl, rfl, hext⟩
theorem partCheck_c (nv : Int) (hp : Sl rRows F w A n c p) (hb : Sl rI G w B m d bs) :
    Calls Tryz.prog 11 #[.int .i64 nv, .agg #[.slice A n c], .slice B m d] w fun e w' => ∃ r, PartWrong nv p bs r ∧ ErrPost (asErr r) w e w' := by
  by_cases h0 : nv < 0
  · exact partCheck_a nv h0
  · obtain ⟨v, rfl⟩ := Int.eq_ofNat_of_zero_le (show 0 ≤ nv by omega)
    by_cases h1 : 4096 < v ∨ 6 < n
    · exact partCheck_b v hp h1
    · by_cases h2 : n = 0
      · exact partCheck_c1 v hp h1 h2
      · by_cases h3 : 0 < m ∧ m ≠ n
        · exact partCheck_c2 v hp hb h1 h2 h3
        · by_cases h4 : m = 0
          · exact partCheck_d v hp hb h1 h2 h4.symm
          · exact partCheck_e v hp hb h1 h2 (by omega)
end
end Go.Proofs.YtlaobpnbnfoadaaGreatDoor
