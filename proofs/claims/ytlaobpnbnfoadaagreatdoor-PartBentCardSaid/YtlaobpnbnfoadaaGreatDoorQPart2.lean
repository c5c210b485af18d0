/-
  The document's own look at cells within cells, stepped through: CheckPart, with what is wrong first.
-/
import Derived.Test.YtlaobpnbnfoadaaGreatDoorQPart1
namespace Go.Proofs.YtlaobpnbnfoadaaGreatDoor
set_option linter.unusedVariables false
set_option linter.unusedSimpArgs false
set_option linter.unusedSectionVars false
set_option linter.unnecessarySimpa false
open Go Go.RowKit

def partW : ByteArray := ⟨#[112, 97, 114, 116]⟩
def lowOf (p : List (List Int)) (k : Nat) : Option (List Int) := if k = 0 then none else p[k - 1]?
/-- What is wrong first of cells within cells: where, and which error; 'none': nothing. -/
def PartWrong (n : Int) (p : List (List Int)) (bs : List Int) (r : Option (Int × Int)) : Prop :=
  (n < 0 ∧ r = some (0, 1)) ∨
  (0 ≤ n ∧ (4096 < n ∨ 6 < p.length) ∧ r = some (0, 4)) ∨
  (0 ≤ n ∧ n ≤ 4096 ∧ p.length ≤ 6 ∧ (p.length = 0 ∨ 0 < bs.length ∧ bs.length ≠ p.length) ∧ r = some (0, 1)) ∨
  (0 ≤ n ∧ n ≤ 4096 ∧ p.length ≤ 6 ∧ ¬ (p.length = 0 ∨ 0 < bs.length ∧ bs.length ≠ p.length) ∧ ∃ k row e, p[k]? = some row ∧ e ≠ 0 ∧ LevelErr n.toNat (lowOf p k) row bs[k]? e ∧ (∀ j row, j < k → p[j]? = some row → LevelErr n.toNat (lowOf p j) row bs[j]? 0) ∧ r = some ((k : Int) + 1, e)) ∨
  (0 ≤ n ∧ n ≤ 4096 ∧ p.length ≤ 6 ∧ ¬ (p.length = 0 ∨ 0 < bs.length ∧ bs.length ≠ p.length) ∧ (∀ j row, p[j]? = some row → LevelErr n.toNat (lowOf p j) row bs[j]? 0) ∧ r = none)
def wrongErr (r : Option (Int × Int)) : Int := match r with | none => 0 | some x => x.2
def wrongParts (s : ByteArray) (r : Option (Int × Int)) : List (ByteArray × Int) := match r with | none => [] | some x => [(s, x.1)]
def WrongIs (s : ByteArray) (r : Option (Int × Int)) (w : World) (e : Ending) (w' : World) : Prop :=
  ∃ A n c, e = .returned (.agg #[.slice A n c, .int .i64 (wrongErr r)]) ∧ Sl Rd.part (fun b => w.heap.size ≤ b) w' A n c (wrongParts s r) ∧ Ext w w'
theorem level_ok {n : Nat} {low : Option (List Int)} {row : List Int} {bound : Option Int} (h : LevelErr n low row bound 0) : row.length = n ∧ InRow n row ∧ FullRow row ∧ (∀ l, low = some l → NestRow l row) ∧ ∀ b, bound = some b → WithinRow row b := by
  rcases h with ⟨_, h⟩ | ⟨_, _, h⟩ | ⟨_, _, _, _, _, h⟩ | ⟨h1, h2, h3, h4, h5, _⟩
  · exact absurd h (by decide)
  · exact absurd h (by decide)
  · exact absurd h (by decide)
  · exact ⟨h1, h2, h3, h4, h5⟩
theorem partOk_of {n : Nat} {p : List (List Int)} {bs : List Int} {r : Option (Int × Int)} (h : PartWrong n p bs r) (h0 : wrongErr r = 0) : PartOk n p := by
  rcases h with ⟨_, rfl⟩ | ⟨_, _, rfl⟩ | ⟨_, _, _, _, rfl⟩ | ⟨_, _, _, _, k, row, e, _, he, _, _, rfl⟩ | ⟨_, h1, h2, h3, h4, rfl⟩
  · exact absurd h0 (by decide)
  · exact absurd h0 (by decide)
  · exact absurd h0 (by decide)
  · exact absurd h0 he
  · have h5 : ∀ j row, p[j]? = some row → row.length = n ∧ InRow n row ∧ FullRow row ∧ ∀ l, lowOf p j = some l → NestRow l row := fun j row hj => by
      have := level_ok (h4 j row hj)
      simp only [Int.toNat_natCast] at this
      exact ⟨this.1, this.2.1, this.2.2.1, this.2.2.2.1⟩
    refine ⟨by omega, by omega, h2, fun x hx => ?_, fun x hx => ?_, fun x hx => ?_, fun k l r h6 h7 => ?_⟩
    · obtain ⟨j, hj⟩ := List.getElem?_of_mem hx
      exact (h5 j x hj).1
    · obtain ⟨j, hj⟩ := List.getElem?_of_mem hx
      exact (h5 j x hj).2.1
    · obtain ⟨j, hj⟩ := List.getElem?_of_mem hx
      exact (h5 j x hj).2.2.1
    · exact (h5 (k + 1) r h7).2.2.2 l (by simp [lowOf, h6])

section
variable {F G : Nat → Prop} {A B : Option Addr} {n c m d : Nat} {p : List (List Int)} {bs : List Int} {w : World}
set_option maxRecDepth 100000 in
set_option maxHeartbeats 4000000 in
theorem CheckPart_a (nv : Int) (h0 : nv < 0) :
    Calls Tryz.prog 13 #[.int .i64 (nv), .agg #[.slice A n c], .slice B m d] w fun e w' => ∃ r, PartWrong (nv) p bs r ∧ WrongIs partW r w e w' := by
  go_enter Tryz.func13, Tryz.ntmps13
  go_wp2_with (go_at_call 26; refine (At_c _ _ _ _ (by decide) (by decide)).mono ?_; rintro e w9 ⟨A9, c9, rfl, hsl9, he9⟩; obtain ⟨hc9, hf9⟩ := bcell he9; have hz9 := he9.size; (try simp only [World.size_alloc] at hz9); replace hsl9 := hsl9.mono (G := fun b => w.heap.size + 2 ≤ b) (fun b h _ => by first | omega | (simp at h; omega)))
  all_goals first | (exfalso; omega) | skip
  refine bodyPost_ret (v := .agg #[.slice A9 1 c9, .int .i64 1]) (by simp [results, Tryz.results13, go_sem, hc9]) rfl ⟨some (0, 1), .inl ⟨h0, rfl⟩, _, _, _, rfl, ((hsl9.setCell (by first | (simp; done) | (simp; omega) | omega) _).setCell (by first | (simp; done) | (simp; omega) | omega) _).mono fun b h _ => by omega, (by repeat (first | exact Ext.refl _ | assumption | refine Ext.al ?_ | refine Ext.dr ?_ | refine Ext.dn ?_ | (refine Ext.st ?_ ?_; · first | omega | (simp; done) | (simp; omega)) | refine Ext.trans ?_ (by assumption)))⟩
set_option maxRecDepth 100000 in
set_option maxHeartbeats 4000000 in
theorem CheckPart_b (nv : Nat) (hp : Sl rRows F w A n c p) (h1 : 4096 < nv ∨ 6 < n) :
    Calls Tryz.prog 13 #[.int .i64 (nv : Int), .agg #[.slice A n c], .slice B m d] w fun e w' => ∃ r, PartWrong (nv) p bs r ∧ WrongIs partW r w e w' := by
  have hpl := hp.len
  have hm := hp.max
  have hl := hp.le
  unfold maxLen at hm
  go_enter Tryz.func13, Tryz.ntmps13
  go_wp2_with (go_at_call 26; refine (At_c _ _ _ _ (by decide) (by decide)).mono ?_; rintro e w9 ⟨A9, c9, rfl, hsl9, he9⟩; obtain ⟨hc9, hf9⟩ := bcell he9; have hz9 := he9.size; (try simp only [World.size_alloc] at hz9); replace hsl9 := hsl9.mono (G := fun b => w.heap.size + 2 ≤ b) (fun b h _ => by first | omega | (simp at h; omega)))
  all_goals first | (exfalso; omega) | skip
  all_goals refine bodyPost_ret (v := .agg #[.slice A9 1 c9, .int .i64 4]) (by simp [results, Tryz.results13, go_sem, hc9]) rfl ⟨some (0, 4), .inr (.inl ⟨by omega, by omega, rfl⟩), _, _, _, rfl, ((hsl9.setCell (by first | (simp; done) | (simp; omega) | omega) _).setCell (by first | (simp; done) | (simp; omega) | omega) _).mono fun b h _ => by omega, (by repeat (first | exact Ext.refl _ | assumption | refine Ext.al ?_ | refine Ext.dr ?_ | refine Ext.dn ?_ | (refine Ext.st ?_ ?_; · first | omega | (simp; done) | (simp; omega)) | refine Ext.trans ?_ (by assumption)))⟩
set_option maxRecDepth 100000 in
set_option maxHeartbeats 4000000 in
theorem CheckPart_c1 (nv : Nat) (hp : Sl rRows F w A n c p) (h1 : ¬ (4096 < nv ∨ 6 < n)) (hn0 : n = 0) :
    Calls Tryz.prog 13 #[.int .i64 (nv : Int), .agg #[.slice A n c], .slice B m d] w fun e w' => ∃ r, PartWrong (nv) p bs r ∧ WrongIs partW r w e w' := by
  have hpl := hp.len
  have hm := hp.max
  have hl := hp.le
  unfold maxLen at hm
  have hd0 : ((n : Int) == 0) = true := by simp [hn0]
  go_enter Tryz.func13, Tryz.ntmps13
  go_wp2_with (go_at_call 26; refine (At_c _ _ _ _ (by decide) (by decide)).mono ?_; rintro e w9 ⟨A9, c9, rfl, hsl9, he9⟩; obtain ⟨hc9, hf9⟩ := bcell he9; have hz9 := he9.size; (try simp only [World.size_alloc] at hz9); replace hsl9 := hsl9.mono (G := fun b => w.heap.size + 2 ≤ b) (fun b h _ => by first | omega | (simp at h; omega)))
  all_goals first | (exfalso; omega) | skip
  all_goals refine bodyPost_ret (v := .agg #[.slice A9 1 c9, .int .i64 1]) (by simp [results, Tryz.results13, go_sem, hc9]) rfl ⟨some (0, 1), .inr (.inr (.inl ⟨by omega, by omega, by omega, .inl (by omega), rfl⟩)), _, _, _, rfl, ((hsl9.setCell (by first | (simp; done) | (simp; omega) | omega) _).setCell (by first | (simp; done) | (simp; omega) | omega) _).mono fun b h _ => by omega, (by repeat (first | exact Ext.refl _ | assumption | refine Ext.al ?_ | refine Ext.dr ?_ | refine Ext.dn ?_ | (refine Ext.st ?_ ?_; · first | omega | (simp; done) | (simp; omega)) | refine Ext.trans ?_ (by assumption)))⟩
set_option maxRecDepth 100000 in
set_option maxHeartbeats 4000000 in
theorem CheckPart_c2 (nv : Nat) (hp : Sl rRows F w A n c p) (hb : Sl rI G w B m d bs) (h1 : ¬ (4096 < nv ∨ 6 < n)) (hn0 : ¬ n = 0) (h2 : 0 < m ∧ m ≠ n) :
    Calls Tryz.prog 13 #[.int .i64 (nv : Int), .agg #[.slice A n c], .slice B m d] w fun e w' => ∃ r, PartWrong (nv) p bs r ∧ WrongIs partW r w e w' := by
  have hpl := hp.len
  have hm := hp.max
  have hl := hp.le
  unfold maxLen at hm
  have hbl := hb.len
  have hd0 : ((n : Int) == 0) = false := by simp; omega
  have hd1 : ((m : Int) != (n : Int)) = true := by simp; omega
  have hm0 : 0 < m := by omega
  go_enter Tryz.func13, Tryz.ntmps13
  go_wp2_with (go_at_call 26; refine (At_c _ _ _ _ (by decide) (by decide)).mono ?_; rintro e w9 ⟨A9, c9, rfl, hsl9, he9⟩; obtain ⟨hc9, hf9⟩ := bcell he9; have hz9 := he9.size; (try simp only [World.size_alloc] at hz9); replace hsl9 := hsl9.mono (G := fun b => w.heap.size + 2 ≤ b) (fun b h _ => by first | omega | (simp at h; omega)))
  all_goals first | (exfalso; omega) | skip
  all_goals refine bodyPost_ret (v := .agg #[.slice A9 1 c9, .int .i64 1]) (by simp [results, Tryz.results13, go_sem, hc9]) rfl ⟨some (0, 1), .inr (.inr (.inl ⟨by omega, by omega, by omega, .inr (by omega), rfl⟩)), _, _, _, rfl, ((hsl9.setCell (by first | (simp; done) | (simp; omega) | omega) _).setCell (by first | (simp; done) | (simp; omega) | omega) _).mono fun b h _ => by omega, (by repeat (first | exact Ext.refl _ | assumption | refine Ext.al ?_ | refine Ext.dr ?_ | refine Ext.dn ?_ | (refine Ext.st ?_ ?_; · first | omega | (simp; done) | (simp; omega)) | refine Ext.trans ?_ (by assumption)))⟩
set_option maxRecDepth 100000 in
set_option maxHeartbeats 4000000 in
theorem CheckPart_d (nv : Nat) (hp : Sl rRows F w A n c p) (hb : Sl rI G w B m d bs) (h1 : ¬ (4096 < nv ∨ 6 < n)) (hn0 : ¬ n = 0) (hmm : m = 0) :
    Calls Tryz.prog 13 #[.int .i64 (nv : Int), .agg #[.slice A n c], .slice B m d] w fun e w' => ∃ r, PartWrong (nv) p bs r ∧ WrongIs partW r w e w' := by
  subst hmm
  have hpl := hp.len
  have hm := hp.max
  have hl := hp.le
  unfold maxLen at hm
  have hbl := hb.len
  have hd0 : ((n : Int) == 0) = false := by simp; omega
  have head : (0 : Int) ≤ (nv : Int) ∧ (nv : Int) ≤ 4096 ∧ p.length ≤ 6 ∧ ¬ (p.length = 0 ∨ 0 < bs.length ∧ bs.length ≠ p.length) := by omega
  have HEAD := Lib.hid head
  have hnv : nv ≤ 4096 := by omega
  have hn6 : n ≤ 6 := by omega
  have HPL := Lib.hid hpl
  clear head h1 hpl hbl
  go_enter Tryz.func13, Tryz.ntmps13
  go_wp2_with fail
  all_goals first | (exfalso; omega) | skip
  go_loopw [7] (fun i wr => ∃ k : Nat, k ≤ n ∧ i = .int .i64 ((k : Int) + 1) ∧ Ext w wr ∧ w.heap.size + 2 ≤ wr.heap.size ∧ Blk wr w.heap.size 24 #[.slice A n c] ∧ Blk wr (w.heap.size + 1) 36 #[.slice none 0 0, .int .i64 0] ∧ Hid (∀ j row, j < k → p[j]? = some row → LevelErr nv (lowOf p j) row bs[j]? 0)) (fun i _ => n + 1 - (intOf i).toNat)
  case atStart => exact ⟨0, Nat.zero_le _, rfl, (by repeat (first | exact Ext.refl _ | assumption | refine Ext.al ?_ | refine Ext.dr ?_ | refine Ext.dn ?_ | (refine Ext.st ?_ ?_; · first | omega | (simp; done) | (simp; omega)) | refine Ext.trans ?_ (by assumption))), by simp, (by repeat (first | assumption | (refine Blk.new_at ?_; simp; done) | refine Blk.alloc ?_ _ | refine Blk.drewN ?_ _ | (refine Blk.far ?_ ?_ _; rotate_left; · first | omega | (simp; done) | (simp; omega)))), (by repeat (first | assumption | (refine Blk.new_at ?_; simp; done) | refine Blk.alloc ?_ _ | refine Blk.drewN ?_ _ | (refine Blk.far ?_ ?_ _; rotate_left; · first | omega | (simp; done) | (simp; omega)))), fun j _ h => absurd h (by omega)⟩
  case round =>
    obtain ⟨k, hk, rfl, hext, hsz, hb0, hb1, hs1⟩ := hrel
    have q0 : wr.cell? ⟨w.heap.size, 0, none⟩ = some (.slice A n c) := hb0.cell 0
    have q1 : wr.cell? ⟨w.heap.size + 1, 0, none⟩ = some (.slice none 0 0) := hb1.cell 0
    have q2 : wr.cell? ⟨w.heap.size + 1, 1, none⟩ = some (.int .i64 0) := hb1.cell 1
    have f1 := hb1.frozen 0
    have f2 := hb1.frozen 1
    have l0 := hb0.lt
    have l1 := hb1.lt
    by_cases hkn : k < n
    · obtain ⟨row, hrow⟩ : ∃ row, p[k]? = some row := ⟨p[k]'(by rw [HPL.out]; exact hkn), List.getElem?_eq_getElem _⟩
      have HROW := Lib.hid hrow
      clear hrow
      go_wp2_with fail
      all_goals first | (exfalso; omega) | skip
      refine (checkLevel_c (nv := nv) (p := p) (bs := bs) (hp.ext hext) (hb.ext hext) hnv HROW.out (fun l hk0 hl => (level_ok (hs1.out (k - 1) l (by omega) hl)).1) (by omega)).mono ?_
      rintro e w1 ⟨er, rfl, hle, he1⟩
      have HLE := Lib.hid hle
      clear hle
      have g0 := hb0.ext he1
      have g1 := hb1.ext he1
      have hz1 := he1.size
      obtain ⟨hc1, hf1⟩ := bcell he1
      have hext1 := hext.trans he1
      have l5 : w.heap.size + 1 < w1.heap.size := by omega
      by_cases her : er = 0
      · subst her
        clear hc1 hf1
        go_wp2_with fail
        all_goals first | (exfalso; omega) | skip
        go_roundw
        case rel => exact ⟨k + 1, by omega, by go_num, hext1, by omega, g0, g1, fun j row hj hjr => by
          by_cases e : j = k
          · subst e
            obtain rfl := Option.some.inj (hjr.symm.trans HROW.out)
            exact HLE.out
          · exact hs1.out j row (by omega) hjr⟩
        case measure => simp [intOf]; omega
      · have hd : (er != 0) = true := by simpa using her
        go_wp2_with (go_at_call 26; refine (At_c _ _ _ _ (by decide) (WalkArith.wf_i64 (by omega))).mono ?_; rintro e w9 ⟨A9, c9, rfl, hsl9, he9⟩; obtain ⟨hc9, hf9⟩ := bcell he9; have hz9 := he9.size; (try simp only [World.size_alloc] at hz9); replace hsl9 := hsl9.mono (G := fun b => w.heap.size + 2 ≤ b) (fun b h _ => by first | omega | (simp at h; omega)))
        all_goals first | (exfalso; omega) | skip
        refine bodyPost_ret (v := .agg #[.slice A9 1 c9, .int .i64 er]) (by simp [results, Tryz.results13, go_sem, hc9, hc1, q1, q2, l1, l5]) rfl ⟨some ((k : Int) + 1, er), .inr (.inr (.inr (.inl ⟨HEAD.out.1, HEAD.out.2.1, HEAD.out.2.2.1, HEAD.out.2.2.2, k, row, er, HROW.out, her, HLE.out, hs1.out, rfl⟩))), _, _, _, rfl, ((hsl9.setCell (by first | (simp; done) | (simp; omega) | omega) _).setCell (by first | (simp; done) | (simp; omega) | omega) _).mono fun b h _ => by omega, ?_⟩
        exact Ext.st (by first | (simp; done) | (simp; omega) | omega) (Ext.st (by first | (simp; done) | (simp; omega) | omega) (hext1.trans he9))
    · obtain rfl : k = n := by omega
      go_wp2_with fail
      all_goals first | (exfalso; omega) | skip
      refine bodyPost_ret (v := .agg #[.slice none 0 0, .int .i64 0]) (by simp [results, Tryz.results13, go_sem, q1, q2]) rfl ⟨none, .inr (.inr (.inr (.inr ⟨HEAD.out.1, HEAD.out.2.1, HEAD.out.2.2.1, HEAD.out.2.2.2, fun j row hj => hs1.out j row (by rw [← HPL.out]; exact (List.getElem?_eq_some_iff.1 hj).1) hj, rfl⟩))), _, _, _, rfl, Sl.nil _ _ _, ?_⟩
      exact Ext.st (by simp) (Ext.st (by simp) hext)
set_option maxRecDepth 100000 in
set_option maxHeartbeats 4000000 in
theorem CheckPart_e (nv : Nat) (hp : Sl rRows F w A n c p) (hb : Sl rI G w B m d bs) (h1 : ¬ (4096 < nv ∨ 6 < n)) (hn0 : ¬ n = 0) (hmm : n = m) :
    Calls Tryz.prog 13 #[.int .i64 (nv : Int), .agg #[.slice A n c], .slice B m d] w fun e w' => ∃ r, PartWrong (nv) p bs r ∧ WrongIs partW r w e w' := by
  subst hmm
  have hpl := hp.len
  have hm := hp.max
  have hl := hp.le
  unfold maxLen at hm
  have hbl := hb.len
  have hd0 : ((n : Int) == 0) = false := by simp; omega
  have head : (0 : Int) ≤ (nv : Int) ∧ (nv : Int) ≤ 4096 ∧ p.length ≤ 6 ∧ ¬ (p.length = 0 ∨ 0 < bs.length ∧ bs.length ≠ p.length) := by omega
  have HEAD := Lib.hid head
  have hnv : nv ≤ 4096 := by omega
  have hn6 : n ≤ 6 := by omega
  have hd1 : ((n : Int) != (n : Int)) = false := by simp
  have HPL := Lib.hid hpl
  clear head h1 hpl hbl
  go_enter Tryz.func13, Tryz.ntmps13
  go_wp2_with fail
  all_goals first | (exfalso; omega) | skip
  go_loopw [7] (fun i wr => ∃ k : Nat, k ≤ n ∧ i = .int .i64 ((k : Int) + 1) ∧ Ext w wr ∧ w.heap.size + 2 ≤ wr.heap.size ∧ Blk wr w.heap.size 24 #[.slice A n c] ∧ Blk wr (w.heap.size + 1) 36 #[.slice none 0 0, .int .i64 0] ∧ Hid (∀ j row, j < k → p[j]? = some row → LevelErr nv (lowOf p j) row bs[j]? 0)) (fun i _ => n + 1 - (intOf i).toNat)
  case atStart => exact ⟨0, Nat.zero_le _, rfl, (by repeat (first | exact Ext.refl _ | assumption | refine Ext.al ?_ | refine Ext.dr ?_ | refine Ext.dn ?_ | (refine Ext.st ?_ ?_; · first | omega | (simp; done) | (simp; omega)) | refine Ext.trans ?_ (by assumption))), by simp, (by repeat (first | assumption | (refine Blk.new_at ?_; simp; done) | refine Blk.alloc ?_ _ | refine Blk.drewN ?_ _ | (refine Blk.far ?_ ?_ _; rotate_left; · first | omega | (simp; done) | (simp; omega)))), (by repeat (first | assumption | (refine Blk.new_at ?_; simp; done) | refine Blk.alloc ?_ _ | refine Blk.drewN ?_ _ | (refine Blk.far ?_ ?_ _; rotate_left; · first | omega | (simp; done) | (simp; omega)))), fun j _ h => absurd h (by omega)⟩
  case round =>
    obtain ⟨k, hk, rfl, hext, hsz, hb0, hb1, hs1⟩ := hrel
    have q0 : wr.cell? ⟨w.heap.size, 0, none⟩ = some (.slice A n c) := hb0.cell 0
    have q1 : wr.cell? ⟨w.heap.size + 1, 0, none⟩ = some (.slice none 0 0) := hb1.cell 0
    have q2 : wr.cell? ⟨w.heap.size + 1, 1, none⟩ = some (.int .i64 0) := hb1.cell 1
    have f1 := hb1.frozen 0
    have f2 := hb1.frozen 1
    have l0 := hb0.lt
    have l1 := hb1.lt
    by_cases hkn : k < n
    · obtain ⟨row, hrow⟩ : ∃ row, p[k]? = some row := ⟨p[k]'(by rw [HPL.out]; exact hkn), List.getElem?_eq_getElem _⟩
      have HROW := Lib.hid hrow
      clear hrow
      go_wp2_with fail
      all_goals first | (exfalso; omega) | skip
      refine (checkLevel_c (nv := nv) (p := p) (bs := bs) (hp.ext hext) (hb.ext hext) hnv HROW.out (fun l hk0 hl => (level_ok (hs1.out (k - 1) l (by omega) hl)).1) (by omega)).mono ?_
      rintro e w1 ⟨er, rfl, hle, he1⟩
      have HLE := Lib.hid hle
      clear hle
      have g0 := hb0.ext he1
      have g1 := hb1.ext he1
      have hz1 := he1.size
      obtain ⟨hc1, hf1⟩ := bcell he1
      have hext1 := hext.trans he1
      have l5 : w.heap.size + 1 < w1.heap.size := by omega
      by_cases her : er = 0
      · subst her
        clear hc1 hf1
        go_wp2_with fail
        all_goals first | (exfalso; omega) | skip
        go_roundw
        case rel => exact ⟨k + 1, by omega, by go_num, hext1, by omega, g0, g1, fun j row hj hjr => by
          by_cases e : j = k
          · subst e
            obtain rfl := Option.some.inj (hjr.symm.trans HROW.out)
            exact HLE.out
          · exact hs1.out j row (by omega) hjr⟩
        case measure => simp [intOf]; omega
      · have hd : (er != 0) = true := by simpa using her
        go_wp2_with (go_at_call 26; refine (At_c _ _ _ _ (by decide) (WalkArith.wf_i64 (by omega))).mono ?_; rintro e w9 ⟨A9, c9, rfl, hsl9, he9⟩; obtain ⟨hc9, hf9⟩ := bcell he9; have hz9 := he9.size; (try simp only [World.size_alloc] at hz9); replace hsl9 := hsl9.mono (G := fun b => w.heap.size + 2 ≤ b) (fun b h _ => by first | omega | (simp at h; omega)))
        all_goals first | (exfalso; omega) | skip
        refine bodyPost_ret (v := .agg #[.slice A9 1 c9, .int .i64 er]) (by simp [results, Tryz.results13, go_sem, hc9, hc1, q1, q2, l1, l5]) rfl ⟨some ((k : Int) + 1, er), .inr (.inr (.inr (.inl ⟨HEAD.out.1, HEAD.out.2.1, HEAD.out.2.2.1, HEAD.out.2.2.2, k, row, er, HROW.out, her, HLE.out, hs1.out, rfl⟩))), _, _, _, rfl, ((hsl9.setCell (by first | (simp; done) | (simp; omega) | omega) _).setCell (by first | (simp; done) | (simp; omega) | omega) _).mono fun b h _ => by omega, ?_⟩
        exact Ext.st (by first | (simp; done) | (simp; omega) | omega) (Ext.st (by first | (simp; done) | (simp; omega) | omega) (hext1.trans he9))
    · obtain rfl : k = n := by omega
      go_wp2_with fail
      all_goals first | (exfalso; omega) | skip
      refine bodyPost_ret (v := .agg #[.slice none 0 0, .int .i64 0]) (by simp [results, Tryz.results13, go_sem, q1, q2]) rfl ⟨none, .inr (.inr (.inr (.inr ⟨HEAD.out.1, HEAD.out.2.1, HEAD.out.2.2.1, HEAD.out.2.2.2, fun j row hj => hs1.out j row (by rw [← HPL.out]; exact (List.getElem?_eq_some_iff.1 hj).1) hj, rfl⟩))), _, _, _, rfl, Sl.nil _ _ _, ?_⟩
      exact Ext.st (by simp) (Ext.st (by simp) hext)
theorem CheckPart_c (nv : Int) (hp : Sl rRows F w A n c p) (hb : Sl rI G w B m d bs) :
    Calls Tryz.prog 13 #[.int .i64 nv, .agg #[.slice A n c], .slice B m d] w fun e w' => ∃ r, PartWrong nv p bs r ∧ WrongIs partW r w e w' := by
  by_cases h0 : nv < 0
  · exact CheckPart_a nv h0
  obtain ⟨nv, rfl⟩ := Int.eq_ofNat_of_zero_le (show 0 ≤ nv by omega)
  by_cases h1 : 4096 < nv ∨ 6 < n
  · exact CheckPart_b nv hp h1
  by_cases hn0 : n = 0
  · exact CheckPart_c1 nv hp h1 hn0
  by_cases h2 : 0 < m ∧ m ≠ n
  · exact CheckPart_c2 nv hp hb h1 hn0 h2
  by_cases hm : m = 0
  · exact CheckPart_d nv hp hb h1 hn0 hm
  · exact CheckPart_e nv hp hb h1 hn0 (by omega)
end
end Go.Proofs.YtlaobpnbnfoadaaGreatDoor
