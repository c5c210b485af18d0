/-
  Contract of part.Ids over cells that may be, of at most 60 vertices: each vertex's number, and the widths.
-/
import Derived.Test.YtlaobpnbnfoadaaGreatDoorMgG
import Derived.Test.YtlaobpnbnfoadaaGreatDoorQ16
import Derived.Test.YtlaobpnbnfoadaaGreatDoorQ15
import Derived.Test.YtlaobpnbnfoadaaGreatDoorQPack3
import Derived.Test.YtlaobpnbnfoadaaGreatDoorQNet7
namespace Go.Proofs.YtlaobpnbnfoadaaGreatDoor
set_option linter.unusedVariables false
set_option linter.unusedSimpArgs false
set_option linter.unusedSectionVars false
set_option linter.unnecessarySimpa false
open Go Go.RowKit

theorem tyU64s : SlTy Tryz.prog 51 55 1 8 (.int .u64 0) := ⟨Tryz.underlying51, info_parts (by kernel_rfl), rfl, by decide, by decide⟩
theorem partWrong_ok {nv : Nat} {p : List (List Int)} (h : PartOk nv p) : PartWrong nv p [] none := by
  have h1 := h.nv_
  have h2 := h.some_
  have h3 := h.few
  refine .inr (.inr (.inr (.inr ⟨by omega, by omega, by omega, fun h => h.elim (fun h => by omega) (fun h => absurd h.1 (by simp)), fun k row hk => ?_, rfl⟩)))
  have hm := List.mem_of_getElem? hk
  refine .inr (.inr (.inr ⟨h.rows row hm, h.inr row hm, h.full row hm, fun l hl => ?_, fun b hb => by simp at hb, rfl⟩))
  unfold lowOf at hl
  split at hl
  · cases hl
  · rename_i hk0
    exact h.nest (k - 1) l row hl (by rw [show k - 1 + 1 = k by omega]; exact hk)
theorem cellsI_len : ∀ (p : List (List Int)) (a : Nat), (cellsI p a).length = p.length
  | [], _ => rfl
  | [_], _ => rfl
  | r :: r' :: p, a => by simp [cellsI, cellsI_len (r' :: p) a]
/-- A vertex's cell at a level, as the lists of places tell it. -/
theorem cellsI_at {nv a : Nat} (ha : a < nv) : ∀ {p : List (List Int)}, PartOk nv p → ∀ {k : Nat} {r pl : List Int} {x : Int}, p[k]? = some r → (plcs p)[k]? = some pl → r[a]? = some x → ∃ c, pl[x.toNat]? = some c ∧ (cellsI p a)[k]? = some c
  | [], _, k, r, pl, x, h, _, _ => by simp at h
  | [q], hok, k, r, pl, x, h, h2, h3 => by
    have hk : k = 0 := by have := (List.getElem?_eq_some_iff.1 h).1; simpa using this
    subst hk
    simp [plcs] at h h2
    subst h h2
    have hi := hok.inr q (by simp) x (List.mem_of_getElem? h3)
    have hm := mostOf_ge (List.mem_of_getElem? h3)
    refine ⟨x, ?_, by simp [cellsI, h3]⟩
    rw [natRow_at (by omega)]
    congr 1
    omega
  | q :: q' :: p, hok, k, r, pl, x, h, h2, h3 => by
    cases k with
    | zero =>
      simp [plcs] at h h2
      subst h h2
      have l1 := hok.rows q (by simp)
      have l2 := hok.rows q' (by simp)
      have h4 : q'[a]? = some q'[a] := List.getElem?_eq_getElem (by omega)
      obtain ⟨c, hc, -, -⟩ := plc_in hok.nv_ (hok.inr q (by simp)) (by omega) (hok.nest 0 q q' rfl rfl) h3 h4
      exact ⟨c, hc, by simp [cellsI, h3, hc]⟩
    | succ k =>
      obtain ⟨c, h4, h5⟩ := cellsI_at ha hok.tail (k := k) (r := r) (pl := pl) (x := x) (by simpa using h) (by simpa [plcs] using h2) h3
      exact ⟨c, h4, by simpa [cellsI] using h5⟩
theorem cellsI_bd {nv a : Nat} {p : List (List Int)} (h : PartOk nv p) (hn : nv ≤ 60) (ha : a < nv) : ∀ y ∈ cellsI p a, 0 ≤ y ∧ y < 4294967296 := by
  have hw := idWidths_in h hn
  have ht := tower_of ha ha h
  have : ∀ {ws cs ds A B : List Int}, Tower ws cs ds A B → (∀ w ∈ ws, 0 ≤ w ∧ w ≤ 6) → ∀ y ∈ cs, 0 ≤ y ∧ y < 4294967296 := by
    intro ws cs ds A B ht
    induction ht with
    | nil => intro _ y hy; cases hy
    | @cons ws cs ds A B w c d a b _ hc _ _ _ ih =>
      intro hw y hy
      rcases List.mem_cons.1 hy with rfl | hy
      · have h1 := hw w (by simp)
        have h2 := two_le (a := w.toNat) (b := 6) (by omega)
        simp at h2
        omega
      · exact ih (fun x hx => hw x (List.mem_cons_of_mem _ hx)) y hy
  exact this ht hw
def idsI (p : List (List Int)) (nv : Nat) : List Int := (List.range nv).map fun a => idOf p a
theorem idsI_at {p : List (List Int)} {nv a : Nat} (h : a < nv) : (idsI p nv)[a]? = some (idOf p a) := by simp [idsI, h]
theorem idsI_len (p : List (List Int)) (nv : Nat) : (idsI p nv).length = nv := by simp [idsI]
/-- The lists of places, as far as they are filled. -/
structure Lists (H : Nat → Prop) (w : World) (g n : Nat) (ps : List (List Int)) (i : Nat) : Prop where
  blk : ∃ cs : List Value, Blk w g 25 cs.toArray ∧ cs.length = n ∧ ∀ j pl, j < i → ps[j]? = some pl → ∃ B m c, cs[j]? = some (.slice B m c) ∧ Sl rI H w B m c pl
theorem Lists.ext {H : Nat → Prop} {w w' : World} {g n i : Nat} {ps : List (List Int)} (h : Lists H w g n ps i) (he : Ext w w') : Lists H w' g n ps i := by
  obtain ⟨cs, h1, h2, h3⟩ := h.blk
  exact ⟨cs, h1.ext he, h2, fun j pl hj hp => by obtain ⟨B, m, c, h4, h5⟩ := h3 j pl hj hp; exact ⟨B, m, c, h4, h5.ext he⟩⟩
theorem Lists.far {H : Nat → Prop} {w : World} {g n i : Nat} {ps : List (List Int)} (h : Lists H w g n ps i) {p : Addr} (hg : g ≠ p.block) (hp : ¬ H p.block) (v : Value) : Lists H (w.setCell p v) g n ps i := by
  obtain ⟨cs, h1, h2, h3⟩ := h.blk
  exact ⟨cs, h1.far hg v, h2, fun j pl hj hpp => by obtain ⟨B, m, c, h4, h5⟩ := h3 j pl hj hpp; exact ⟨B, m, c, h4, h5.setCell hp v⟩⟩
theorem Lists.put {H : Nat → Prop} {w : World} {g n i : Nat} {ps : List (List Int)} (h : Lists H w g n ps i) (hi : i < n) {B : Option Addr} {m c : Nat} {pl : List Int} (hpl : ps[i]? = some pl) (hs : Sl rI H w B m c pl) (hH : ¬ H g) : Lists H (w.setCell ⟨g, i, none⟩ (.slice B m c)) g n ps (i + 1) := by
  obtain ⟨cs, h1, h2, h3⟩ := h.blk
  refine ⟨cs.set i (.slice B m c), ?_, by simp [h2], fun j q hj hq => ?_⟩
  · have := h1.set_ i (.slice B m c)
    rwa [List.setIfInBounds_toArray] at this
  · by_cases e : j = i
    · subst e
      rw [hpl] at hq
      injection hq with hq
      subst hq
      exact ⟨B, m, c, by rw [List.getElem?_set_self (by omega)], hs.setCell (p := ⟨g, j, none⟩) hH _⟩
    · obtain ⟨B', m', c', h4, h5⟩ := h3 j q (by omega) hq
      exact ⟨B', m', c', by rw [List.getElem?_set_ne (by omega)]; exact h4, h5.setCell (p := ⟨g, i, none⟩) hH _⟩
theorem Lists.get {H : Nat → Prop} {w : World} {g n i : Nat} {ps : List (List Int)} (h : Lists H w g n ps i) {j : Nat} (hj : j < i) {pl : List Int} (hpl : ps[j]? = some pl) : ∃ B m c, w.cell? ⟨g, j, none⟩ = some (.slice B m c) ∧ Sl rI H w B m c pl := by
  obtain ⟨cs, h1, h2, h3⟩ := h.blk
  obtain ⟨B, m, c, h4, h5⟩ := h3 j pl hj hpl
  exact ⟨B, m, c, by rw [h1.cell, List.getElem?_toArray]; exact h4, h5⟩
theorem Lists.old {H : Nat → Prop} {w : World} {g n i : Nat} {ps : List (List Int)} (h : Lists H w g n ps i) {j : Nat} (hj : j < n) : (∃ v, w.cell? ⟨g, j, none⟩ = some v) ∧ w.frozen? ⟨g, j, none⟩ = false ∧ g < w.heap.size := by
  obtain ⟨cs, h1, h2, h3⟩ := h.blk
  exact ⟨⟨_, by rw [h1.cell, List.getElem?_toArray, List.getElem?_eq_getElem (by omega)]⟩, h1.frozen j, h1.lt⟩
theorem Lists.bound {H : Nat → Prop} {w : World} {g n i : Nat} {ps : List (List Int)} (h : Lists H w g n ps i) : Lists (fun b => H b ∧ b < w.heap.size) w g n ps i := by
  obtain ⟨cs, h1, h2, h3⟩ := h.blk
  exact ⟨cs, h1, h2, fun j pl hj hpp => by obtain ⟨B, m, c, h4, h5⟩ := h3 j pl hj hpp; exact ⟨B, m, c, h4, h5.mono fun b hb hlt => ⟨hb, hlt⟩⟩⟩
theorem st_cell {w : World} {p q : Addr} {u v : Value} (h : w.cell? q = some v) (hn : q.block < p.block) : (w.setCell p u).cell? q = some v :=
  ((Below.setCell (B := p.block) (Below.refl _ w) (Nat.le_refl _) u).cell (p := q) hn).trans h
theorem kept2 {wo w w' : World} {a b : Addr} {x y : Value} (h : Ext w w') (hk : Ext wo w ∧ w.cell? a = some x ∧ w.cell? b = some y) : Ext wo w' ∧ w'.cell? a = some x ∧ w'.cell? b = some y :=
  ⟨hk.1.trans h, (h.cell (p := a) (cell_lt2 hk.2.1)).trans hk.2.1, (h.cell (p := b) (cell_lt2 hk.2.2)).trans hk.2.2⟩
section
variable {F : Nat → Prop} {A : Option Addr} {n c nv : Nat} {p : List (List Int)} {w : World}
theorem checkOk_c (hp : Sl rRows F w A n c p) (hok : PartOk nv p) : Calls Tryz.prog 11 #[.int .i64 (nv : Int), .agg #[.slice A n c], .slice none 0 0] w fun e w' => e = .returned .nilIface ∧ Ext w w' := by
  refine (partCheck_c (nv : Int) hp (Sl.nil rI (fun _ => True) w)).mono ?_
  rintro e w' ⟨r, hr, v, rfl, hv, he⟩
  obtain rfl := partWrong_one hr (partWrong_ok hok)
  obtain rfl : v = .nilIface := hv
  exact ⟨rfl, he⟩
set_option maxRecDepth 100000 in
set_option maxHeartbeats 16000000 in
theorem Ids_c (hp : Sl rRows F w A n c p) (hok : PartOk nv p) (hnv : nv ≤ 60) :
    Calls Tryz.prog 27 #[.agg #[.slice A n c]] w fun e w' => ∃ B m c' D q d, e = .returned (.tuple #[.slice B m c', .slice D q d]) ∧ Sl (Rd.int .u64) (fun b => w.heap.size ≤ b) w' B m c' (idsI p nv) ∧ Sl rI (fun b => w.heap.size ≤ b) w' D q d (idWidths p) ∧ Ext w w' := by
  have hpl := hp.len
  have hpm := hp.max
  have hple := hp.le
  unfold maxLen at hpm
  have hn6 : n ≤ 6 := by have := hok.few; omega
  have hn1 : 0 < n := by have := hok.some_; omega
  have hne : ((n : Int) == 0) = false := by simp; omega
  have hp' := hp.lt
  obtain ⟨b0, o0, A1, n1, c1, row0, rfl, hb0, hx0, e0, hr0⟩ := hp'.row (k := 0) hn1
  have hrl := hr0.len
  rw [hok.rows row0 (List.mem_of_getElem? hx0.out)] at hrl
  subst hrl
  have e00 : w.cell? ⟨b0, o0, none⟩ = some (.slice A1 nv c1) := by simpa using e0
  have HP := Lib.hid hp'
  have HOK := Lib.hid hok
  have HPL := Lib.hid hpl
  clear e0 hr0 hx0 hp hp' hok hpl
  go_enter Tryz.func27, Tryz.ntmps27
  go_wp2_with fail
  go_upto_region 1 with fail
  obtain ⟨wo, hwo⟩ : ∃ wo : World, wo = w.alloc (.cells #[.slice (some ⟨b0, o0, none⟩) n c] 32) := ⟨_, rfl⟩
  have hE : Ext w wo := by rw [hwo]; exact (by repeat (first | exact Ext.refl _ | assumption | refine Ext.al ?_ | refine Ext.dr ?_ | refine Ext.dn ?_ | (refine Ext.st ?_ ?_; · first | omega | (simp; done) | (simp; omega)) | refine Ext.trans ?_ (by assumption)))
  have q0 : wo.cell? ⟨w.heap.size, 0, none⟩ = some (.slice (some ⟨b0, o0, none⟩) n c) := by rw [hwo]; simp
  rw [← hwo]
  have p0 := (hE.cell (p := ⟨b0, o0, none⟩) hb0).trans e00
  clear hwo
  go_cut [27] (fun tv wc => tv = .bool false ∧ Ext wo wc)
  case first =>
    refine wp_region_held_drew (S := (fun w' => Ext wo w' ∧ w'.cell? ⟨w.heap.size, 0, none⟩ = some (.slice (some ⟨b0, o0, none⟩) n c) ∧ w'.cell? ⟨b0, o0, none⟩ = some (.slice A1 nv c1))) (by kernel_rfl) ⟨Ext.dr (Ext.refl _), q0, p0⟩ (fun hHeld => ?_)
    refine wpAnyH_take (i := 0) (v := ?_) rfl (by kernel_rfl) (by kernel_rfl) (by kernel_rfl) (fun _ _ _ h => h) (Or.inl ⟨by rfl, ?_⟩) (by assumption) ?_; rotate_left; (intro W hSw; (try dsimp only at hSw); go_simp; with_reducible rfl); (try simp only [Act.put, List.setIfInBounds_toArray, List.set_cons_zero, List.set_cons_succ, List.getElem_toArray, List.getElem_cons_succ, List.getElem_cons_zero])
    refine wpAnyH_take (i := 1) (v := ?_) rfl (by kernel_rfl) (by kernel_rfl) (by kernel_rfl) (fun _ _ _ h => h) (Or.inl ⟨by rfl, ?_⟩) (by assumption) ?_; rotate_left; (intro W hSw; (try dsimp only at hSw); go_simp; with_reducible rfl); (try simp only [Act.put, List.setIfInBounds_toArray, List.set_cons_zero, List.set_cons_succ, List.getElem_toArray, List.getElem_cons_succ, List.getElem_cons_zero])
    refine wpAnyH_take (i := 2) (v := ?_) rfl (by kernel_rfl) (by kernel_rfl) (by kernel_rfl) (fun _ _ _ h => h) (Or.inl ⟨by rfl, ?_⟩) (by assumption) ?_; rotate_left; (intro W hSw; (try dsimp only at hSw); go_simp; with_reducible rfl); (try simp only [Act.put, List.setIfInBounds_toArray, List.set_cons_zero, List.set_cons_succ, List.getElem_toArray, List.getElem_cons_succ, List.getElem_cons_zero])
    refine wpAnyH_take (i := 3) (v := ?_) rfl (by kernel_rfl) (by kernel_rfl) (by kernel_rfl) (fun _ _ _ h => h) (Or.inl ⟨by rfl, ?_⟩) (by assumption) ?_; rotate_left; (intro W hSw; (try dsimp only at hSw); go_simp; with_reducible rfl); (try simp only [Act.put, List.setIfInBounds_toArray, List.set_cons_zero, List.set_cons_succ, List.getElem_toArray, List.getElem_cons_succ, List.getElem_cons_zero])
    refine wpAnyH_take (i := 4) (v := ?_) rfl (by kernel_rfl) (by kernel_rfl) (by kernel_rfl) (fun _ _ _ h => h) (Or.inl ⟨by rfl, ?_⟩) (by assumption) ?_; rotate_left; (intro W hSw; (try dsimp only at hSw); go_simp; with_reducible rfl); (try simp only [Act.put, List.setIfInBounds_toArray, List.set_cons_zero, List.set_cons_succ, List.getElem_toArray, List.getElem_cons_succ, List.getElem_cons_zero])
    refine wpAnyH_take (i := 5) (v := ?_) rfl (by kernel_rfl) (by kernel_rfl) (by kernel_rfl) (fun _ _ _ h => h) (Or.inl ⟨by rfl, ?_⟩) (by assumption) ?_; rotate_left; (intro W hSw; (try dsimp only at hSw); go_simp; with_reducible rfl); (try simp only [Act.put, List.setIfInBounds_toArray, List.set_cons_zero, List.set_cons_succ, List.getElem_toArray, List.getElem_cons_succ, List.getElem_cons_zero])
    refine wpAnyH_take (i := 6) (v := ?_) rfl (by kernel_rfl) (by kernel_rfl) (by kernel_rfl) (fun _ _ _ h => h) (Or.inl ⟨by rfl, ?_⟩) (by assumption) ?_; rotate_left; (intro W hSw; (try dsimp only at hSw); go_simp; with_reducible rfl); (try simp only [Act.put, List.setIfInBounds_toArray, List.set_cons_zero, List.set_cons_succ, List.getElem_toArray, List.getElem_cons_succ, List.getElem_cons_zero])
    refine wpAnyH_take (i := 7) (v := ?_) rfl (by kernel_rfl) (by kernel_rfl) (by kernel_rfl) (fun _ _ _ h => h) (Or.inl ⟨by rfl, ?_⟩) (by assumption) ?_; rotate_left; (intro W hSw; (try dsimp only at hSw); go_simp; with_reducible rfl); (try simp only [Act.put, List.setIfInBounds_toArray, List.set_cons_zero, List.set_cons_succ, List.getElem_toArray, List.getElem_cons_succ, List.getElem_cons_zero])
    refine wpAnyH_take (i := 8) (v := ?_) rfl (by kernel_rfl) (by kernel_rfl) (by kernel_rfl) (fun _ _ _ h => h) (Or.inl ⟨by rfl, ?_⟩) (by assumption) ?_; rotate_left; (intro W hSw; (try dsimp only at hSw); go_simp; with_reducible rfl); (try simp only [Act.put, List.setIfInBounds_toArray, List.set_cons_zero, List.set_cons_succ, List.getElem_toArray, List.getElem_cons_succ, List.getElem_cons_zero])
    refine wpAnyH_take (i := 9) (v := ?_) rfl (by kernel_rfl) (by kernel_rfl) (by kernel_rfl) (fun _ _ _ h => h) (Or.inl ⟨by rfl, ?_⟩) (by assumption) ?_; rotate_left; (intro W hSw; (try dsimp only at hSw); go_simp; with_reducible rfl); (try simp only [Act.put, List.setIfInBounds_toArray, List.set_cons_zero, List.set_cons_succ, List.getElem_toArray, List.getElem_cons_succ, List.getElem_cons_zero])
    refine wpAnyH_take (i := 10) (v := ?_) rfl (by kernel_rfl) (by kernel_rfl) (by kernel_rfl) (fun _ _ _ h => h) (Or.inl ⟨by rfl, ?_⟩) (by assumption) ?_; rotate_left; (intro W hSw; (try dsimp only at hSw); go_simp; with_reducible rfl); (try simp only [Act.put, List.setIfInBounds_toArray, List.set_cons_zero, List.set_cons_succ, List.getElem_toArray, List.getElem_cons_succ, List.getElem_cons_zero])
    refine wpAnyH_ready (rs := [11]) (by kernel_rfl) (by simp) ?_; refine AllReadyH.cons rfl (fun K hK => ?_) AllReadyH.nil; go_simp; go_at_call 11; refine (checkOk_c ((HP.out.ext hE).ext (And.left (by assumption : Ext wo _ ∧ _))) HOK.out).mono ?_; rintro e w2 ⟨rfl, he2⟩; refine hK.out _ _ ?_ (fun hHeld => ?_); exact kept2 he2 (by assumption); clear hK K; (try simp only [Act.put, List.setIfInBounds_toArray, List.set_cons_zero, List.set_cons_succ, List.getElem_toArray, List.getElem_cons_succ, List.getElem_cons_zero])
    refine wpAnyH_take (i := 12) (v := ?_) rfl (by kernel_rfl) (by kernel_rfl) (by kernel_rfl) (fun _ _ _ h => h) (Or.inl ⟨by rfl, ?_⟩) (by assumption) ?_; rotate_left; (intro W hSw; (try dsimp only at hSw); go_simp; with_reducible rfl); (try simp only [Act.put, List.setIfInBounds_toArray, List.set_cons_zero, List.set_cons_succ, List.getElem_toArray, List.getElem_cons_succ, List.getElem_cons_zero])
    refine wpAnyH_take (i := 13) (v := ?_) rfl (by kernel_rfl) (by kernel_rfl) (by kernel_rfl) (fun _ _ _ h => h) (Or.inl ⟨by rfl, ?_⟩) (by assumption) ?_; rotate_left; (intro W hSw; (try dsimp only at hSw); go_simp; with_reducible rfl); (try simp only [Act.put, List.setIfInBounds_toArray, List.set_cons_zero, List.set_cons_succ, List.getElem_toArray, List.getElem_cons_succ, List.getElem_cons_zero])
    refine wpAnyH_done (by kernel_rfl) ?_ _
    go_wp2_with fail
    go_meet
    exact ⟨rfl, And.left (by assumption : Ext wo _ ∧ _)⟩
  case rest =>
    obtain ⟨rfl, hxc⟩ := hcut
    obtain ⟨w1, hw1⟩ : ∃ w1 : World, w1 = wc := ⟨_, rfl⟩
    rw [← hw1] at hxc ⊢
    clear hw1
    have q1 := (hxc.cell (p := ⟨w.heap.size, 0, none⟩) (cell_lt2 q0)).trans q0
    have p1 := (hxc.cell (p := ⟨b0, o0, none⟩) (cell_lt2 p0)).trans p0
    have hE1 : Ext w w1 := hE.trans hxc
    clear q0 p0 hE hxc
    go_wp2_with (first | (at_make; refine wpL_make tyInts rfl (.tmp 30) (.tmp 30) rfl n .i64 .i64 (by simp [Act.eval]) (by simp [Act.eval]) (by omega) ?_; intro w2 hbw2 hew2 hzw2; have qw2 := (hew2.cell (p := ⟨w.heap.size, 0, none⟩) (cell_lt2 q1)).trans q1; have hgw2 : w1.heap.size < w2.heap.size := (by omega); clear hzw2) | (at_make; refine wpL_make tyRows rfl (.tmp 34) (.tmp 34) rfl n .i64 .i64 (by simp [Act.eval]) (by simp [Act.eval]) (by omega) ?_; intro w3 hbw3 hew3 hzw3; have qw3 := (hew3.cell (p := ⟨w.heap.size, 0, none⟩) (cell_lt2 qw2)).trans qw2; have hgw3 : w2.heap.size < w3.heap.size := (by omega); clear hzw3))
    all_goals first | (exfalso; omega) | skip
    have hE13 : Ext w1 w3 := hew2.trans hew3
    have hws : w.heap.size < w1.heap.size := cell_lt2 q1
    have hC0 : Blk w3 w1.heap.size 3 (((((plcs p).map mostOf).take 0) ++ List.replicate (n - 0) (0 : Int)).map (Value.int .i64)).toArray := by
      refine Blk.ext ?_ hew3
      simpa [madeCells_one, Value.cells] using hbw2
    have hL0 : Lists (fun b => w3.heap.size ≤ b) w3 w2.heap.size n (plcs p) 0 :=
      ⟨⟨List.replicate n (.slice none 0 0), by simpa [madeCells_one, Value.cells] using hbw3, by simp, fun j pl h => by omega⟩⟩
    have HPC := Lib.hid (plcs_len p)
    clear hbw2 hew2 hbw3 hew3 qw2 qw3
    go_loopw [39] (fun iv wr => ∃ i : Nat, i ≤ n ∧ iv = .int .i64 i ∧ Blk wr w1.heap.size 3 (((((plcs p).map mostOf).take i) ++ List.replicate (n - i) (0 : Int)).map (Value.int .i64)).toArray ∧ Lists (fun b => w3.heap.size ≤ b) wr w2.heap.size n (plcs p) i ∧ Ext w1 wr ∧ w3.heap.size ≤ wr.heap.size) (fun iv _ => n - (intOf iv).toNat)
    case atStart => exact ⟨0, Nat.zero_le _, rfl, hC0, hL0, hE13, Nat.le_refl _⟩
    case round =>
      clear hC0 hL0 hE13
      obtain ⟨i, hi, rfl, hC, hL, he, hsz⟩ := hrel
      obtain ⟨wz, rfl⟩ : ∃ wz : World, wz = wr := ⟨_, rfl⟩
      have qz := (he.cell (p := ⟨w.heap.size, 0, none⟩) (cell_lt2 q1)).trans q1
      by_cases hin : i < n
      · go_wp2_with fail
        all_goals first | (exfalso; omega) | skip
        refine (places_c i ((HP.out.ext hE1).ext he) HOK.out hin).mono ?_
        rintro e w4 ⟨B, m, c4, pl, hpl, rfl, hsl, he4⟩
        have hL4 := hL.ext he4
        have hC4 := hC.ext he4
        obtain ⟨⟨old, ho1⟩, fo1, lo1⟩ := hL4.old hin
        have hlen : (((plcs p).map mostOf).take i).length = i := by rw [List.length_take, List.length_map, HPC.out, HPL.out]; omega
        have ho2 := fill_cell hC4 hlen hin
        have fo2 := hC4.frozen i
        have lo2 := hC4.lt
        have hsz4 : w3.heap.size ≤ w4.heap.size := Nat.le_trans hsz he4.size
        have hD := (hL4.put hin hpl (hsl.mono fun b h _ => Nat.le_trans hsz h) (by omega)).far (p := ⟨w1.heap.size, i, none⟩) (by simp; omega) (by simp; omega) (.int .i64 (mostOf pl))
        have hps : ((plcs p).map mostOf).take (i + 1) = ((plcs p).map mostOf).take i ++ [mostOf pl] := by
          rw [List.take_add_one, List.getElem?_map, hpl]; rfl
        have hG := (hC4.far (p := ⟨w2.heap.size, i, none⟩) (by simp; omega) (.slice B m c4)).set_ i (.int .i64 (mostOf pl))
        rw [set_ints, fill_setN hlen hin, ← hps] at hG
        have hE9 : Ext w1 ((w4.setCell ⟨w2.heap.size, i, none⟩ (.slice B m c4)).setCell ⟨w1.heap.size, i, none⟩ (.int .i64 (mostOf pl))) :=
          Ext.st (p := ⟨w1.heap.size, i, none⟩) (Nat.le_refl _) (Ext.st (p := ⟨w2.heap.size, i, none⟩) (Nat.le_of_lt hgw2) (he.trans he4))
        have hne2 : w1.heap.size ≠ w2.heap.size := Nat.ne_of_lt hgw2
        clear hC hL qz hpl hsl he4 hL4 hC4 hps he hlen
        go_wp2_with fail
        all_goals first | (exfalso; omega) | skip
        go_roundw
        case rel => exact ⟨i + 1, by omega, by go_num, hG, hD, hE9, by simp; omega⟩
        case measure => simp [intOf]; omega
      · obtain rfl : i = n := by omega
        have ht : ((plcs p).map mostOf).take i = (plcs p).map mostOf := List.take_of_length_le (by rw [List.length_map, HPC.out, HPL.out]; omega)
        rw [ht, Nat.sub_self, List.replicate_zero, List.append_nil] at hC
        have hsl : Sl rI (fun _ => True) wz (some ⟨w1.heap.size, 0, none⟩) i i ((plcs p).map mostOf) := Sl.of_blk_ints hC (by rw [List.length_map, HPC.out, HPL.out]) (by unfold maxLen; omega) trivial (fun y hy => by
          have := plcs_bd HOK.out y hy
          exact WalkArith.wf_i64 (by omega))
        have hW := packWidths_c hsl
        rw [widths_ok HOK.out] at hW
        have HW := Lib.hid hW
        have hLb := hL.bound
        have pz := (he.cell (p := ⟨b0, o0, none⟩) (cell_lt2 p1)).trans p1
        clear hC hL ht hsl hW
        go_wp2_with fail
        all_goals first | (exfalso; omega) | skip
        refine HW.out.mono ?_
        rintro e w6 ⟨D, q, d, v, rfl, hv, hD, he6⟩
        obtain rfl : v = .nilIface := hv
        have hDs := hD.mono (G := fun b => wz.heap.size ≤ b ∧ b < w6.heap.size) fun b h1 h2 => ⟨h1, h2⟩
        have hq : q ≤ 6 := by have := hDs.len; have h2 := idWidths_len p; rw [show okL none (widthsOf ((plcs p).map mostOf)) = idWidths p from rfl] at this; rw [HPL.out] at h2; omega
        have q6 := (he6.cell (p := ⟨w.heap.size, 0, none⟩) (cell_lt2 qz)).trans qz
        have p6 := (he6.cell (p := ⟨b0, o0, none⟩) (cell_lt2 pz)).trans pz
        have hL6 := hLb.ext he6
        have hE6 : Ext w1 w6 := he.trans he6
        have hsz6 : wz.heap.size ≤ w6.heap.size := he6.size
        clear qz pz hD he6 hLb he HW
        go_wp2_with (first | (at_make; refine wpL_make tyU64s rfl (.tmp 67) (.tmp 67) rfl nv .i64 .i64 (by simp [Act.eval]) (by simp [Act.eval]) (by omega) ?_; intro w7 hbw7 hew7 hzw7; have qw7 := (hew7.cell (p := ⟨w.heap.size, 0, none⟩) (cell_lt2 q6)).trans q6; have hgw7 : w6.heap.size < w7.heap.size := (by omega); clear hzw7) | (at_make; refine wpL_make tyInts rfl (.tmp 71) (.tmp 71) rfl i .i64 .i64 (by simp [Act.eval]) (by simp [Act.eval]) (by omega) ?_; intro w8 hbw8 hew8 hzw8; have qw8 := (hew8.cell (p := ⟨w.heap.size, 0, none⟩) (cell_lt2 qw7)).trans qw7; have hgw8 : w7.heap.size < w8.heap.size := (by omega); clear hzw8))
        all_goals first | (exfalso; omega) | skip
        have hE68 : Ext w6 w8 := hew7.trans hew8
        have hE8 : Ext w1 w8 := hE6.trans hE68
        have hL8 := hL6.ext hE68
        have hD8 := hDs.ext hE68
        have hI8 : Blk w8 w6.heap.size 55 ((((idsI p nv).take 0) ++ List.replicate (nv - 0) (0 : Int)).map (Value.int .u64)).toArray := by
          refine Blk.ext ?_ hew8
          simpa [madeCells_one, Value.cells] using hbw7
        have hC8 : Blk w8 w7.heap.size 3 ((List.replicate i (0 : Int)).map (Value.int .i64)).toArray := by
          simpa [madeCells_one, Value.cells] using hbw8
        have HD : Hid (okL none (widthsOf ((plcs p).map mostOf)) = idWidths p) := Lib.hid rfl
        rw [HD.out] at hD8
        clear hbw7 hew7 hbw8 hew8 qw7 qw8 hL6 hDs hE6 hE68
        go_loopw [8, 75] (fun ev iv wr => ∃ (v : Nat) (cs : List Int), v ≤ nv ∧ iv = .int .i64 v ∧ ev = .nilIface ∧ cs.length = i ∧ Blk wr w6.heap.size 55 ((((idsI p nv).take v) ++ List.replicate (nv - v) (0 : Int)).map (Value.int .u64)).toArray ∧ Blk wr w7.heap.size 3 (cs.map (Value.int .i64)).toArray ∧
          Lists (fun b => w3.heap.size ≤ b ∧ b < wz.heap.size) wr w2.heap.size i (plcs p) i ∧ Sl rI (fun b => wz.heap.size ≤ b ∧ b < w6.heap.size) wr D q d (idWidths p) ∧ Ext w1 wr) (fun _ iv _ => nv - (intOf iv).toNat)
        case atStart => exact ⟨0, List.replicate i 0, Nat.zero_le _, rfl, rfl, by simp, hI8, hC8, hL8, hD8, hE8⟩
        case round =>
          clear hI8 hC8 hL8 hD8 hE8
          rename_i wr
          obtain ⟨v, cs, hv, rfl, rfl, hcl, hI, hC, hL, hD, he⟩ := hrel
          obtain ⟨wy, rfl⟩ : ∃ wy : World, wy = wr := ⟨_, rfl⟩
          have qy := (he.cell (p := ⟨w.heap.size, 0, none⟩) (cell_lt2 q1)).trans q1
          by_cases hvn : v < nv
          · go_wp2_with fail
            all_goals first | (exfalso; omega) | skip
            go_loopw [81] (fun iv wr => ∃ (j : Nat) (cs : List Int), j ≤ i ∧ iv = .int .i64 j ∧ cs.length = i ∧ Hid (cs.take j = (cellsI p v).take j) ∧ Blk wr w6.heap.size 55 ((((idsI p nv).take v) ++ List.replicate (nv - v) (0 : Int)).map (Value.int .u64)).toArray ∧ Blk wr w7.heap.size 3 (cs.map (Value.int .i64)).toArray ∧
              Lists (fun b => w3.heap.size ≤ b ∧ b < wz.heap.size) wr w2.heap.size i (plcs p) i ∧ Sl rI (fun b => wz.heap.size ≤ b ∧ b < w6.heap.size) wr D q d (idWidths p) ∧ Ext w1 wr) (fun iv _ => i - (intOf iv).toNat)
            case atStart => exact ⟨0, cs, Nat.zero_le _, rfl, hcl, Lib.hid rfl, hI, hC, hL, hD, he⟩
            case round =>
              clear hI hC hL hD he qy hcl
              rename_i wr
              obtain ⟨j, cs, hj, rfl, hcl, hcs, hI, hC, hL, hD, he⟩ := hrel
              obtain ⟨wx, rfl⟩ : ∃ wx : World, wx = wr := ⟨_, rfl⟩
              have hg76 : w6.heap.size < w7.heap.size := hgw7
              have hwz1 : w1.heap.size ≤ wz.heap.size := by omega
              by_cases hji : j < i
              · obtain ⟨b1, o1, Ar, nr, cr, row, hA, hb1, hx, e1, hr⟩ := ((HP.out.ext hE1).ext he).row hji
                injection hA with hA
                injection hA with ea eb
                subst ea eb
                have hrl := hr.len
                rw [HOK.out.rows row (List.mem_of_getElem? hx.out)] at hrl
                subst hrl
                obtain ⟨b6, o6, hA6, hF6, -, -⟩ := hr.at_ (by omega)
                obtain ⟨b2, o2, x, hA2, hb2, hxv, e2, x0, x1⟩ := hr.int hvn
                rw [hA2] at hA6
                injection hA6 with hA6
                injection hA6 with ea eb
                subst ea eb hA2
                have hinr := HOK.out.inr row (List.mem_of_getElem? hx.out) x (List.mem_of_getElem? hxv.out)
                obtain ⟨xx, rfl⟩ := Int.eq_ofNat_of_zero_le hinr.1
                have hjp : j < (plcs p).length := by rw [HPC.out, HPL.out]; exact hji
                have hpl : (plcs p)[j]? = some (plcs p)[j] := List.getElem?_eq_getElem hjp
                obtain ⟨cv, hc1, hc2⟩ := cellsI_at hvn HOK.out hx.out hpl hxv.out
                rw [Int.toNat_natCast] at hc1
                obtain ⟨B, m, c4, e3, hs3⟩ := hL.get hji hpl
                have hxm : xx < m := by rw [← hs3.len]; exact (List.getElem?_eq_some_iff.1 hc1).1
                obtain ⟨b5, o5, hA5, hF5, -, -⟩ := hs3.at_ (by omega)
                obtain ⟨b4, o4, cv', hA4, hb4, hcv, e4, -, -⟩ := hs3.int hxm
                rw [hA4] at hA5
                injection hA5 with hA5
                injection hA5 with ea eb
                subst ea eb hA4
                obtain rfl : cv' = cv := Option.some.inj (hcv.out.symm.trans hc1)
                have hrm := hr.max
                have hrle := hr.le
                have hsm := hs3.max
                have hsle := hs3.le
                unfold maxLen at hrm hsm
                have hf := hC.frozen j
                have hlt := hC.lt
                obtain ⟨old, hold⟩ : ∃ old, wx.cell? ⟨w7.heap.size, j, none⟩ = some old := ⟨_, by rw [hC.cell, List.getElem?_toArray, List.getElem?_map, List.getElem?_eq_getElem (by omega)]; rfl⟩
                have x2 : (xx : Int) < (m : Int) := by omega
                have x3 : (0 : Int) ≤ (xx : Int) := by omega
                have v2 : (v : Int) < (nv : Int) := by omega
                have v3 : (0 : Int) ≤ (v : Int) := by omega
                have j2 : (j : Int) < (i : Int) := by omega
                have j3 : (0 : Int) ≤ (j : Int) := by omega
                have g2lt : w2.heap.size < w7.heap.size := by omega
                have b2lt : b2 < w7.heap.size := by omega
                have b4lt : b4 < w7.heap.size := by omega
                have hCC := hC.drew.set_ j (.int .i64 cv')
                rw [set_ints] at hCC
                have hII := hI.drew.far (p := ⟨w7.heap.size, j, none⟩) (Nat.ne_of_lt hg76) (.int .i64 cv')
                have hLL := (hL.ext (Ext.dr (Ext.refl _))).far (p := ⟨w7.heap.size, j, none⟩) (Nat.ne_of_lt g2lt) (by simp; omega) (.int .i64 cv')
                have hDD := (hD.ext (Ext.dr (Ext.refl _))).setCell (p := ⟨w7.heap.size, j, none⟩) (by simp; omega) (.int .i64 cv')
                have hEE : Ext w1 (wx.drew.setCell ⟨w7.heap.size, j, none⟩ (.int .i64 cv')) := Ext.st (p := ⟨w7.heap.size, j, none⟩) (by simp; omega) (Ext.dr he)
                have hcs2 : Hid ((cs.set j cv').take (j + 1) = (cellsI p v).take (j + 1)) := Lib.hid (by
                  rw [List.take_add_one, List.take_add_one, hc2, List.getElem?_set_self (by omega), ← hcs.out]
                  congr 1
                  apply List.ext_getElem?
                  intro k
                  rw [List.getElem?_take, List.getElem?_take]
                  split
                  · rw [List.getElem?_set_ne (by omega)]
                  · rfl)
                have hset : (cs.set j cv').length = i := by simp [hcl]
                clear hc1 hc2 hpl hs3 hr hx hxv hcv hinr hI hL hD hC hb1 hb2 hb4
                go_upto_region 21 with fail
                refine wp_region_held_drew (S := (fun w' => Ext w1 w' ∧ w'.cell? ⟨w2.heap.size, j, none⟩ = some (.slice (some ⟨b4, o4, none⟩) m c4) ∧ w'.cell? ⟨b2, o2 + v, none⟩ = some (.int .i64 xx) ∧ w'.cell? ⟨b4, o4 + xx, none⟩ = some (.int .i64 cv'))) (by kernel_rfl) ⟨Ext.dr he, e3, e2, e4⟩ (fun hHeld => ?_)
                refine wpAnyH_take (i := 0) (v := ?_) rfl (by kernel_rfl) (by kernel_rfl) (by kernel_rfl) (fun _ _ _ h => h) (Or.inl ⟨by rfl, ?_⟩) (by assumption) ?_; rotate_left; (intro W hSw; (try dsimp only at hSw); go_simp; with_reducible rfl); (try simp only [Act.put, List.setIfInBounds_toArray, List.set_cons_zero, List.set_cons_succ, List.getElem_toArray, List.getElem_cons_succ, List.getElem_cons_zero])
                refine wpAnyH_take (i := 1) (v := ?_) rfl (by kernel_rfl) (by kernel_rfl) (by kernel_rfl) (fun _ _ _ h => h) (Or.inl ⟨by rfl, ?_⟩) (by assumption) ?_; rotate_left; (intro W hSw; (try dsimp only at hSw); go_simp; with_reducible rfl); (try simp only [Act.put, List.setIfInBounds_toArray, List.set_cons_zero, List.set_cons_succ, List.getElem_toArray, List.getElem_cons_succ, List.getElem_cons_zero])
                refine wpAnyH_take (i := 2) (v := ?_) rfl (by kernel_rfl) (by kernel_rfl) (by kernel_rfl) (fun _ _ _ h => h) (Or.inl ⟨by rfl, ?_⟩) (by assumption) ?_; rotate_left; (intro W hSw; (try dsimp only at hSw); go_simp; with_reducible rfl); (try simp only [Act.put, List.setIfInBounds_toArray, List.set_cons_zero, List.set_cons_succ, List.getElem_toArray, List.getElem_cons_succ, List.getElem_cons_zero])
                refine wpAnyH_take (i := 3) (v := ?_) rfl (by kernel_rfl) (by kernel_rfl) (by kernel_rfl) (fun _ _ _ h => h) (Or.inl ⟨by rfl, ?_⟩) (by assumption) ?_; rotate_left; (intro W hSw; (try dsimp only at hSw); go_simp; with_reducible rfl); (try simp only [Act.put, List.setIfInBounds_toArray, List.set_cons_zero, List.set_cons_succ, List.getElem_toArray, List.getElem_cons_succ, List.getElem_cons_zero])
                refine wpAnyH_take (i := 4) (v := ?_) rfl (by kernel_rfl) (by kernel_rfl) (by kernel_rfl) (fun _ _ _ h => h) (Or.inl ⟨by rfl, ?_⟩) (by assumption) ?_; rotate_left; (intro W hSw; (try dsimp only at hSw); go_simp; with_reducible rfl); (try simp only [Act.put, List.setIfInBounds_toArray, List.set_cons_zero, List.set_cons_succ, List.getElem_toArray, List.getElem_cons_succ, List.getElem_cons_zero])
                refine wpAnyH_take (i := 5) (v := ?_) rfl (by kernel_rfl) (by kernel_rfl) (by kernel_rfl) (fun _ _ _ h => h) (Or.inl ⟨by rfl, ?_⟩) (by assumption) ?_; rotate_left; (intro W hSw; (try dsimp only at hSw); go_simp; with_reducible rfl); (try simp only [Act.put, List.setIfInBounds_toArray, List.set_cons_zero, List.set_cons_succ, List.getElem_toArray, List.getElem_cons_succ, List.getElem_cons_zero])
                refine wpAnyH_take (i := 6) (v := ?_) rfl (by kernel_rfl) (by kernel_rfl) (by kernel_rfl) (fun _ _ _ h => h) (Or.inl ⟨by rfl, ?_⟩) (by assumption) ?_; rotate_left; (intro W hSw; (try dsimp only at hSw); go_simp; with_reducible rfl); (try simp only [Act.put, List.setIfInBounds_toArray, List.set_cons_zero, List.set_cons_succ, List.getElem_toArray, List.getElem_cons_succ, List.getElem_cons_zero])
                refine wpAnyH_take (i := 7) (v := ?_) rfl (by kernel_rfl) (by kernel_rfl) (by kernel_rfl) (fun _ _ _ h => h) (Or.inl ⟨by rfl, ?_⟩) (by assumption) ?_; rotate_left; (intro W hSw; (try dsimp only at hSw); go_simp; with_reducible rfl); (try simp only [Act.put, List.setIfInBounds_toArray, List.set_cons_zero, List.set_cons_succ, List.getElem_toArray, List.getElem_cons_succ, List.getElem_cons_zero])
                refine wpAnyH_take (i := 8) (v := ?_) rfl (by kernel_rfl) (by kernel_rfl) (by kernel_rfl) (fun _ _ _ h => h) (Or.inl ⟨by rfl, ?_⟩) (by assumption) ?_; rotate_left; (intro W hSw; (try dsimp only at hSw); go_simp; with_reducible rfl); (try simp only [Act.put, List.setIfInBounds_toArray, List.set_cons_zero, List.set_cons_succ, List.getElem_toArray, List.getElem_cons_succ, List.getElem_cons_zero])
                refine wpAnyH_take (i := 9) (v := ?_) rfl (by kernel_rfl) (by kernel_rfl) (by kernel_rfl) (fun _ _ _ h => h) (Or.inl ⟨by rfl, ?_⟩) (by assumption) ?_; rotate_left; (intro W hSw; (try dsimp only at hSw); go_simp; with_reducible rfl); (try simp only [Act.put, List.setIfInBounds_toArray, List.set_cons_zero, List.set_cons_succ, List.getElem_toArray, List.getElem_cons_succ, List.getElem_cons_zero])
                refine wpAnyH_take (i := 10) (v := ?_) rfl (by kernel_rfl) (by kernel_rfl) (by kernel_rfl) (fun _ _ _ h => h) (Or.inl ⟨by rfl, ?_⟩) (by assumption) ?_; rotate_left; (intro W hSw; (try dsimp only at hSw); go_simp; with_reducible rfl); (try simp only [Act.put, List.setIfInBounds_toArray, List.set_cons_zero, List.set_cons_succ, List.getElem_toArray, List.getElem_cons_succ, List.getElem_cons_zero])
                refine wpAnyH_take (i := 11) (v := ?_) rfl (by kernel_rfl) (by kernel_rfl) (by kernel_rfl) (fun _ _ _ h => h) (Or.inl ⟨by rfl, ?_⟩) (by assumption) ?_; rotate_left; (intro W hSw; (try dsimp only at hSw); go_simp; with_reducible rfl); (try simp only [Act.put, List.setIfInBounds_toArray, List.set_cons_zero, List.set_cons_succ, List.getElem_toArray, List.getElem_cons_succ, List.getElem_cons_zero])
                refine wpAnyH_take (i := 12) (v := ?_) rfl (by kernel_rfl) (by kernel_rfl) (by kernel_rfl) (fun _ _ _ h => h) (Or.inl ⟨by rfl, ?_⟩) (by assumption) ?_; rotate_left; (intro W hSw; (try dsimp only at hSw); go_simp; with_reducible rfl); (try simp only [Act.put, List.setIfInBounds_toArray, List.set_cons_zero, List.set_cons_succ, List.getElem_toArray, List.getElem_cons_succ, List.getElem_cons_zero])
                refine wpAnyH_ready (rs := [13]) (by kernel_rfl) (by simp) ?_; refine AllReadyH.cons rfl (fun K hK => ?_) AllReadyH.nil; go_simp; refine hK.out _ _ ?_ (fun hHeld => ?_)
                · exact ⟨hEE, st_cell (p := ⟨w7.heap.size, j, none⟩) (q := ⟨w2.heap.size, j, none⟩) e3 g2lt, st_cell (p := ⟨w7.heap.size, j, none⟩) (q := ⟨b2, o2 + v, none⟩) e2 b2lt, st_cell (p := ⟨w7.heap.size, j, none⟩) (q := ⟨b4, o4 + xx, none⟩) e4 b4lt⟩
                clear hK K
                (try simp only [Act.put, List.setIfInBounds_toArray, List.set_cons_zero, List.set_cons_succ, List.getElem_toArray, List.getElem_cons_succ, List.getElem_cons_zero])
                refine wpAnyH_done (by kernel_rfl) ?_ _
                clear e1 e2 e3 e4 hold hf hlt
                go_wp2_with fail
                all_goals first | (exfalso; omega) | skip
                go_roundw
                case rel => exact ⟨j + 1, cs.set j cv', by omega, by go_num, hset, hcs2, hII, hCC, hLL, hDD, hEE⟩
                case measure => simp [intOf]; omega
              · obtain rfl : j = i := by omega
                have hce : cs = cellsI p v := by
                  have := hcs.out
                  rwa [List.take_of_length_le (by omega), List.take_of_length_le (by rw [cellsI_len, HPL.out]; omega)] at this
                have hcsl : Sl rI (fun _ => True) wx (some ⟨w7.heap.size, 0, none⟩) j j cs := Sl.of_blk_ints hC hcl (by unfold maxLen; omega) trivial (fun y hy => by
                  rw [hce] at hy
                  have hno := pack_ok HOK.out hnv hvn
                  have : 0 ≤ y ∧ y < 4294967296 := cellsI_bd HOK.out hnv hvn y hy
                  exact WalkArith.wf_i64 (by omega))
                rw [hce] at hcsl
                have hPk := packPack_c hcsl hD
                rw [pack_ok HOK.out hnv hvn] at hPk
                have HPk := Lib.hid hPk
                have hq1 := (he.cell (p := ⟨w.heap.size, 0, none⟩) (cell_lt2 q1)).trans q1
                clear hcsl hPk hcs
                go_wp2_with fail
                all_goals first | (exfalso; omega) | skip
                refine HPk.out.mono ?_
                rintro e w9 ⟨vv, rfl, hv9, he9⟩
                obtain rfl : vv = .nilIface := hv9
                have hI9 := hI.ext he9
                have hC9 := hC.ext he9
                have hL9 := hL.ext he9
                have hD9 := hD.ext he9
                have hE9 : Ext w1 w9 := he.trans he9
                have hf := hI9.frozen v
                have hlt := hI9.lt
                have hlen : ((idsI p nv).take v).length = v := by rw [List.length_take, idsI_len]; omega
                obtain ⟨old, hold⟩ : ∃ old, w9.cell? ⟨w6.heap.size, v, none⟩ = some old := ⟨_, by rw [hI9.cell, List.getElem?_toArray, List.getElem?_map, List.getElem?_eq_getElem (by simp [idsI_len]; omega)]; rfl⟩
                have hps : (idsI p nv).take (v + 1) = (idsI p nv).take v ++ [idOf p v] := by
                  rw [List.take_add_one, idsI_at hvn]; rfl
                have hII := hI9.set_ v (.int .u64 (idOf p v))
                rw [set_intsP, fill_setN hlen hvn, ← hps] at hII
                have hCC := hC9.far (p := ⟨w6.heap.size, v, none⟩) (Nat.ne_of_gt hg76) (.int .u64 (idOf p v))
                have hLL := hL9.far (p := ⟨w6.heap.size, v, none⟩) (by simp; omega) (by simp; omega) (.int .u64 (idOf p v))
                have hDD := hD9.setCell (p := ⟨w6.heap.size, v, none⟩) (by simp) (.int .u64 (idOf p v))
                have hEE : Ext w1 (w9.setCell ⟨w6.heap.size, v, none⟩ (.int .u64 (idOf p v))) := Ext.st (p := ⟨w6.heap.size, v, none⟩) (by simp; omega) hE9
                have HOKN : okN none (packI (cellsI p v) (idWidths p)) = idOf p v := rfl
                rw [HOKN]
                obtain ⟨idv, hidv⟩ : ∃ idv, idOf p v = idv := ⟨_, rfl⟩
                rw [hidv] at hII hCC hLL hDD hEE ⊢
                clear hI hC hL hD hI9 hC9 hL9 hD9 he he9 hE9 hps hlen hq1 HOKN hidv HPk
                go_wp2_with fail
                all_goals first | (exfalso; omega) | skip
                go_roundw
                case rel => exact ⟨v + 1, cs, by omega, by go_num, rfl, hcl, hII, hCC, hLL, hDD, hEE⟩
                case measure => simp [intOf]; omega
          · obtain rfl : v = nv := by omega
            have ht : (idsI p v).take v = idsI p v := List.take_of_length_le (by rw [idsI_len]; omega)
            rw [ht, Nat.sub_self, List.replicate_zero, List.append_nil] at hI
            have hsl : Sl (Rd.int .u64) (fun b => w.heap.size ≤ b) wy (some ⟨w6.heap.size, 0, none⟩) v v (idsI p v) := Sl.of_blk_ints hI (idsI_len _ _) (by unfold maxLen; omega) (by omega) (fun y hy => by
              obtain ⟨a, ha, rfl⟩ := List.mem_map.1 hy
              have := idOf_bd HOK.out hnv (List.mem_range.1 ha)
              simp [Lit.wf, IntKind.min, IntKind.max, IntKind.signed, IntKind.bits]
              omega)
            have HSL := Lib.hid hsl
            have hD2 := hD.mono (G := fun b => w.heap.size ≤ b) fun b h _ => by have := hE1.size; have := h.1; omega
            have hE9 := hE1.trans he
            clear hI hC hL ht hsl
            go_wp2_with fail
            all_goals first | (exfalso; omega) | skip
            go_ret2
            exact ⟨_, _, _, D, q, d, rfl, HSL.out, hD2, hE9⟩
end
end Go.Proofs.YtlaobpnbnfoadaaGreatDoor
