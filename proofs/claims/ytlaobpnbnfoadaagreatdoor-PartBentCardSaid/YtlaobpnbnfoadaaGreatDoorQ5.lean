/-
  Contract of part.nested: whether the cells of a level stand in those of the next one. Conditions: the readings; numbers that may be; at most 4096 of them.
-/
import Derived.Test.YtlaobpnbnfoadaaGreatDoorQ4
namespace Go.Proofs.YtlaobpnbnfoadaaGreatDoor
set_option linter.unusedVariables false
set_option linter.unusedSimpArgs false
set_option linter.unusedSectionVars false
set_option linter.unnecessarySimpa false
open Go Go.RowKit

/-- What the row of next cells holds behind so many vertices. -/
structure UpOk (low row : List Int) (k : Nat) (up : List Int) : Prop where
  here : ∀ (v : Nat) (x y : Int), v < k → low[v]? = some x → row[v]? = some y → up[x.toNat]? = some y
  from_ : ∀ (c : Nat) (u : Int), up[c]? = some u → u = -1 ∨ ∃ v, v < k ∧ low[v]? = some (c : Int) ∧ row[v]? = some u
theorem UpOk.next {low row up : List Int} {k c : Nat} {u r : Int} (h : UpOk low row k up) (hl : low[k]? = some (c : Int)) (hr : row[k]? = some r) (hu : up[c]? = some u) (hok : u < 0 ∨ u = r) (hrow : ∀ x ∈ row, 0 ≤ x) : UpOk low row (k + 1) (up.set c r) := by
  have hcl := (List.getElem?_eq_some_iff.1 hu).1
  refine ⟨fun v x y hv h1 h2 => ?_, fun c' u' h1 => ?_⟩
  · by_cases hvk : v = k
    · subst hvk
      rw [hl] at h1
      rw [hr] at h2
      injection h1 with h1
      injection h2 with h2
      subst h1 h2
      rw [Int.toNat_natCast, List.getElem?_set_self hcl]
    · have h3 := h.here v x y (by omega) h1 h2
      by_cases hx : x.toNat = c
      · rw [hx] at h3 ⊢
        rw [hu] at h3
        injection h3 with h3
        have h4 := hrow y (List.mem_of_getElem? h2)
        rw [List.getElem?_set_self hcl]
        congr 1
        omega
      · rw [List.getElem?_set_ne (by omega)]
        exact h3
  · by_cases hc : c' = c
    · subst hc
      rw [List.getElem?_set_self hcl] at h1
      injection h1 with h1
      subst h1
      exact .inr ⟨k, by omega, hl, hr⟩
    · rw [List.getElem?_set_ne (by omega)] at h1
      rcases h.from_ c' u' h1 with h2 | ⟨v, h2, h3, h4⟩
      · exact .inl h2
      · exact .inr ⟨v, by omega, h3, h4⟩
section
variable {F G : Nat → Prop} {A B : Option Addr} {n m c d : Nat} {low row : List Int} {w : World}
set_option maxRecDepth 100000 in
set_option maxHeartbeats 16000000 in
theorem nested_c (hs : Sl rI F w A n c low) (ht : Sl rI G w B n d row) (hn : n ≤ 4096) (h1 : InRow n low) (h2 : FullRow low) (h3 : InRow n row) : Calls Tryz.prog 38 #[.slice A n c, .slice B n d] w (BoolIff (NestRow low row) w) := by
  have HL := Lib.hid hs.len
  have HM := Lib.hid ht.len
  have HS := Lib.hid hs
  have HT := Lib.hid ht
  have H1 := Lib.hid h1
  have H2 := Lib.hid h2
  have H3 := Lib.hid h3
  have hm := hs.max
  have hle := hs.le
  have hm2 := ht.max
  have hle2 := ht.le
  unfold maxLen at hm hm2
  clear hs ht h1 h2 h3
  go_enter Tryz.func38, Tryz.ntmps38
  go_wp2_with (at_make; refine wpL_make tyInts rfl (.tmp 11) (.tmp 11) rfl n .i64 .i64 (by simp [Act.eval]) (by simp [Act.eval]) (by omega) ?_; intro w1 hb1 he1 hz1)
  all_goals first | (exfalso; omega) | skip
  have hb1' : Blk w1 w.heap.size 3 ((List.replicate 0 (-1 : Int) ++ List.replicate (n - 0) 0).map (Value.int .i64)).toArray := by
    simpa [madeCells_one, Value.cells] using hb1
  clear hb1 hz1
  go_loopw [15] (fun iv wr => ∃ k : Nat, k ≤ n ∧ iv = .int .i64 k ∧ Blk wr w.heap.size 3 ((List.replicate k (-1 : Int) ++ List.replicate (n - k) 0).map (Value.int .i64)).toArray ∧ Ext w wr) (fun iv _ => n - (intOf iv).toNat)
  case atStart => exact ⟨0, Nat.zero_le _, rfl, hb1', he1⟩
  case round =>
    clear hb1' he1
    obtain ⟨k, hk, rfl, hb, he⟩ := hrel
    obtain ⟨wz, rfl⟩ : ∃ wz : World, wz = wr := ⟨_, rfl⟩
    by_cases hkn : k < n
    · have hf := hb.frozen k
      have hlt := hb.lt
      have hcell : wz.cell? ⟨w.heap.size, k, none⟩ = some (.int .i64 0) := by
        rw [hb.cell]
        have h5 : (List.replicate k (-1 : Int) ++ List.replicate (n - k) 0)[k]? = some 0 := by
          rw [List.getElem?_append_right (by simp), List.length_replicate, Nat.sub_self, List.getElem?_replicate, if_pos (by omega)]
        rw [List.getElem?_toArray, List.getElem?_map, h5]
        rfl
      have hb2 : Blk (wz.setCell ⟨w.heap.size, k, none⟩ (.int .i64 (-1))) w.heap.size 3 ((List.replicate (k + 1) (-1 : Int) ++ List.replicate (n - (k + 1)) 0).map (Value.int .i64)).toArray := by
        have e : List.replicate (k + 1) (-1 : Int) ++ List.replicate (n - (k + 1)) 0 = (List.replicate k (-1 : Int) ++ List.replicate (n - k) 0).set k (-1) := by
          rw [List.set_append_right _ _ (by simp), List.length_replicate, Nat.sub_self, show n - k = (n - (k + 1)) + 1 by omega, List.replicate_succ (n := n - (k + 1)), List.set_cons_zero, List.replicate_succ', List.append_assoc]
          rfl
        rw [e, ← set_ints]
        exact hb.set_ k _
      have he2 : Ext w (wz.setCell ⟨w.heap.size, k, none⟩ (.int .i64 (-1))) := Ext.st (p := ⟨w.heap.size, k, none⟩) (Nat.le_refl _) he
      clear hb
      go_wp2_with fail
      all_goals first | (exfalso; omega) | skip
      go_roundw
      case rel => exact ⟨k + 1, by omega, by go_num, hb2, he2⟩
      case measure => simp [intOf]; omega
    · obtain rfl : k = n := by omega
      rw [Nat.sub_self, List.replicate_zero, List.append_nil] at hb
      go_wp2_with fail
      go_loopw [7, 24] (fun mv iv wr => ∃ (v : Nat) (up : List Int), v ≤ k ∧ iv = .int .i64 v ∧ mv = .int .i64 (mostOf (low.take v) - 1) ∧ up.length = k ∧ Blk wr w.heap.size 3 (up.map (Value.int .i64)).toArray ∧ Hid (UpOk low row v up ∧ ∀ u ∈ up, -1 ≤ u ∧ u < (k : Int)) ∧ Ext w wr) (fun _ iv _ => k - (intOf iv).toNat)
      case atStart => exact ⟨0, List.replicate k (-1), Nat.zero_le _, rfl, by simp [mostOf], by simp, hb, Lib.hid ⟨⟨fun v x y h => by omega, fun c u h => .inl (List.eq_of_mem_replicate (List.mem_of_getElem? h))⟩, fun u h => by have := List.eq_of_mem_replicate h; omega⟩, he⟩
      case round =>
        clear hb he
        rename_i wr
        obtain ⟨v, up, hv, rfl, rfl, hul, hb, hok, he⟩ := hrel
        obtain ⟨wz, rfl⟩ : ∃ wz : World, wz = wr := ⟨_, rfl⟩
        have hm0 := mostOf_nonneg (low.take v)
        have hm1 : mostOf (low.take v) ≤ k := mostOf_le (by omega) fun x hx => (H1.out x (List.mem_of_mem_take hx)).2
        by_cases hvk : v < k
        · obtain ⟨b0, o0, x, rfl, hb0, hx, e1, x0, x1⟩ := (HS.out.ext he).int hvk
          obtain ⟨b1, o1, r, rfl, hb1, hr, e2, r0, r1⟩ := (HT.out.ext he).int hvk
          have HX := Lib.hid hx.out
          have HR := Lib.hid hr.out
          have hmo := mostOf_succ hx.out
          have hxin := H1.out x (List.mem_of_getElem? hx.out)
          have hrin := H3.out r (List.mem_of_getElem? hr.out)
          obtain ⟨cc, rfl⟩ := Int.eq_ofNat_of_zero_le hxin.1
          have hcn : cc < k := by omega
          have hu0 : ∃ u, up[cc]? = some u := ⟨_, List.getElem?_eq_getElem (by omega)⟩
          obtain ⟨u, hu⟩ := hu0
          have HU := Lib.hid hu
          have hub := hok.out.2 u (List.mem_of_getElem? hu)
          have hcell : wz.cell? ⟨w.heap.size, cc, none⟩ = some (.int .i64 u) := by
            rw [hb.cell, List.getElem?_toArray, List.getElem?_map, hu]
            rfl
          have hf := hb.frozen cc
          have hlt := hb.lt
          have HBZ := Lib.hid hb
          have HMO : Hid (mostOf (low.take (v + 1)) = max (mostOf (low.take v)) ((cc : Int) + 1)) := Lib.hid hmo
          generalize mostOf (low.take v) = mo at *
          clear hx hr hmo hu hb
          have HNX : Hid ((u < 0 ∨ u = r) → ∀ WQ, Blk WQ w.heap.size 3 (up.map (Value.int .i64)).toArray → Ext w WQ → Blk (WQ.setCell ⟨w.heap.size, cc, none⟩ (.int .i64 r)) w.heap.size 3 ((up.set cc r).map (Value.int .i64)).toArray ∧ (up.set cc r).length = k ∧
              Hid (UpOk low row (v + 1) (up.set cc r) ∧ ∀ u ∈ up.set cc r, -1 ≤ u ∧ u < (k : Int)) ∧ Ext w (WQ.setCell ⟨w.heap.size, cc, none⟩ (.int .i64 r))) := Lib.hid (fun hor WQ hB hE => ⟨by rw [← set_ints]; exact hB.set_ cc _, by simp [hul], Lib.hid ⟨hok.out.1.next HX.out HR.out HU.out hor (fun x hx => (H3.out x hx).1), fun y hy => by
                rcases List.mem_or_eq_of_mem_set hy with h | h
                · exact hok.out.2 y h
                · omega⟩, Ext.st (p := ⟨w.heap.size, cc, none⟩) (Nat.le_refl _) hE⟩)
          go_wp2_with fail
          go_upto_region 11 with fail
          by_cases hneg : u < 0
          · have q1 : decide (u ≥ 0) = false := by simp; omega
            go_cut [44] (fun tv wc => tv = .bool false ∧ Ext wz wc)
            case first =>
              refine wp_region_held_drew (S := (fun w' => Ext wz w' ∧ w'.cell? ⟨w.heap.size, cc, none⟩ = some (.int .i64 u) ∧ w'.cell? ⟨b1, o1 + v, none⟩ = some (.int .i64 r))) (by kernel_rfl) ⟨Ext.dr (Ext.refl _), hcell, e2⟩ (fun hHeld => ?_)
              refine wpAnyH_take (i := 0) (v := ?_) rfl (by kernel_rfl) (by kernel_rfl) (by kernel_rfl) (fun _ _ _ h => h) (Or.inl ⟨by rfl, ?_⟩) (by assumption) ?_; rotate_left; (intro W hSw; (try dsimp only at hSw); go_simp; with_reducible rfl); (try simp only [Act.put, List.setIfInBounds_toArray, List.set_cons_zero, List.set_cons_succ, List.getElem_toArray, List.getElem_cons_succ, List.getElem_cons_zero])
              refine wpAnyH_take (i := 1) (v := ?_) rfl (by kernel_rfl) (by kernel_rfl) (by kernel_rfl) (fun _ _ _ h => h) (Or.inl ⟨by rfl, ?_⟩) (by assumption) ?_; rotate_left; (intro W hSw; (try dsimp only at hSw); go_simp; with_reducible rfl); (try simp only [Act.put, List.setIfInBounds_toArray, List.set_cons_zero, List.set_cons_succ, List.getElem_toArray, List.getElem_cons_succ, List.getElem_cons_zero])
              refine wpAnyH_take (i := 2) (v := ?_) rfl (by kernel_rfl) (by kernel_rfl) (by kernel_rfl) (fun _ _ _ h => h) (Or.inl ⟨by rfl, ?_⟩) (by assumption) ?_; rotate_left; (intro W hSw; (try dsimp only at hSw); go_simp; with_reducible rfl); (try simp only [Act.put, List.setIfInBounds_toArray, List.set_cons_zero, List.set_cons_succ, List.getElem_toArray, List.getElem_cons_succ, List.getElem_cons_zero])
              refine wpAnyH_take (i := 3) (v := ?_) rfl (by kernel_rfl) (by kernel_rfl) (by kernel_rfl) (fun _ _ _ h => h) (Or.inl ⟨by rfl, ?_⟩) (by assumption) ?_; rotate_left; (intro W hSw; (try dsimp only at hSw); go_simp; with_reducible rfl); (try simp only [Act.put, List.setIfInBounds_toArray, List.set_cons_zero, List.set_cons_succ, List.getElem_toArray, List.getElem_cons_succ, List.getElem_cons_zero])
              refine wpAnyH_take (i := 4) (v := ?_) rfl (by kernel_rfl) (by kernel_rfl) (by kernel_rfl) (fun _ _ _ h => h) (Or.inl ⟨by rfl, ?_⟩) (by assumption) ?_; rotate_left; (intro W hSw; (try dsimp only at hSw); go_simp; with_reducible rfl); (try simp only [Act.put, List.setIfInBounds_toArray, List.set_cons_zero, List.set_cons_succ, List.getElem_toArray, List.getElem_cons_succ, List.getElem_cons_zero])
              refine wpAnyH_take (i := 5) (v := ?_) rfl (by kernel_rfl) (by kernel_rfl) (by kernel_rfl) (fun _ _ _ h => h) (Or.inl ⟨by rfl, ?_⟩) (by assumption) ?_; rotate_left; (intro W hSw; (try dsimp only at hSw); go_simp; with_reducible rfl); (try simp only [Act.put, List.setIfInBounds_toArray, List.set_cons_zero, List.set_cons_succ, List.getElem_toArray, List.getElem_cons_succ, List.getElem_cons_zero])
              refine wpAnyH_take (i := 6) (v := undef) rfl (by kernel_rfl) (by kernel_rfl) (by kernel_rfl) (fun _ _ _ h => h) (Or.inr ⟨by kernel_rfl, rfl⟩) (by assumption) ?_; (try simp only [Act.put, List.setIfInBounds_toArray, List.set_cons_zero, List.set_cons_succ, List.getElem_toArray, List.getElem_cons_succ, List.getElem_cons_zero])
              refine wpAnyH_take (i := 7) (v := undef) rfl (by kernel_rfl) (by kernel_rfl) (by kernel_rfl) (fun _ _ _ h => h) (Or.inr ⟨by kernel_rfl, rfl⟩) (by assumption) ?_; (try simp only [Act.put, List.setIfInBounds_toArray, List.set_cons_zero, List.set_cons_succ, List.getElem_toArray, List.getElem_cons_succ, List.getElem_cons_zero])
              refine wpAnyH_take (i := 8) (v := undef) rfl (by kernel_rfl) (by kernel_rfl) (by kernel_rfl) (fun _ _ _ h => h) (Or.inr ⟨by kernel_rfl, rfl⟩) (by assumption) ?_; (try simp only [Act.put, List.setIfInBounds_toArray, List.set_cons_zero, List.set_cons_succ, List.getElem_toArray, List.getElem_cons_succ, List.getElem_cons_zero])
              refine wpAnyH_take (i := 9) (v := undef) rfl (by kernel_rfl) (by kernel_rfl) (by kernel_rfl) (fun _ _ _ h => h) (Or.inr ⟨by kernel_rfl, rfl⟩) (by assumption) ?_; (try simp only [Act.put, List.setIfInBounds_toArray, List.set_cons_zero, List.set_cons_succ, List.getElem_toArray, List.getElem_cons_succ, List.getElem_cons_zero])
              refine wpAnyH_take (i := 10) (v := undef) rfl (by kernel_rfl) (by kernel_rfl) (by kernel_rfl) (fun _ _ _ h => h) (Or.inr ⟨by kernel_rfl, rfl⟩) (by assumption) ?_; (try simp only [Act.put, List.setIfInBounds_toArray, List.set_cons_zero, List.set_cons_succ, List.getElem_toArray, List.getElem_cons_succ, List.getElem_cons_zero])
              refine wpAnyH_take (i := 11) (v := undef) rfl (by kernel_rfl) (by kernel_rfl) (by kernel_rfl) (fun _ _ _ h => h) (Or.inr ⟨by kernel_rfl, rfl⟩) (by assumption) ?_; (try simp only [Act.put, List.setIfInBounds_toArray, List.set_cons_zero, List.set_cons_succ, List.getElem_toArray, List.getElem_cons_succ, List.getElem_cons_zero])
              refine wpAnyH_take (i := 12) (v := undef) rfl (by kernel_rfl) (by kernel_rfl) (by kernel_rfl) (fun _ _ _ h => h) (Or.inr ⟨by kernel_rfl, rfl⟩) (by assumption) ?_; (try simp only [Act.put, List.setIfInBounds_toArray, List.set_cons_zero, List.set_cons_succ, List.getElem_toArray, List.getElem_cons_succ, List.getElem_cons_zero])
              refine wpAnyH_take (i := 13) (v := undef) rfl (by kernel_rfl) (by kernel_rfl) (by kernel_rfl) (fun _ _ _ h => h) (Or.inr ⟨by kernel_rfl, rfl⟩) (by assumption) ?_; (try simp only [Act.put, List.setIfInBounds_toArray, List.set_cons_zero, List.set_cons_succ, List.getElem_toArray, List.getElem_cons_succ, List.getElem_cons_zero])
              refine wpAnyH_take (i := 14) (v := undef) rfl (by kernel_rfl) (by kernel_rfl) (by kernel_rfl) (fun _ _ _ h => h) (Or.inr ⟨by kernel_rfl, rfl⟩) (by assumption) ?_; (try simp only [Act.put, List.setIfInBounds_toArray, List.set_cons_zero, List.set_cons_succ, List.getElem_toArray, List.getElem_cons_succ, List.getElem_cons_zero])
              refine wpAnyH_take (i := 15) (v := ?_) rfl (by kernel_rfl) (by kernel_rfl) (by kernel_rfl) (fun _ _ _ h => h) (Or.inl ⟨by rfl, ?_⟩) (by assumption) ?_; rotate_left; (intro W hSw; (try dsimp only at hSw); go_simp; with_reducible rfl); (try simp only [Act.put, List.setIfInBounds_toArray, List.set_cons_zero, List.set_cons_succ, List.getElem_toArray, List.getElem_cons_succ, List.getElem_cons_zero])
              refine wpAnyH_done (by kernel_rfl) ?_ _
              go_wp2_with fail
              go_meet
              exact ⟨rfl, Ext.dr (Ext.refl _)⟩
            case rest =>
              obtain ⟨rfl, hxc⟩ := hcut
              obtain ⟨w2, hw2⟩ : ∃ w2 : World, w2 = wc := ⟨_, rfl⟩
              rw [← hw2] at hxc ⊢
              have hB := HBZ.out.ext hxc
              have hcell2 : w2.cell? ⟨w.heap.size, cc, none⟩ = some (.int .i64 u) := (hxc.cell (p := ⟨w.heap.size, cc, none⟩) hlt).trans hcell
              have hf2 := hB.frozen cc
              have hlt2 := hB.lt
              have e22 : w2.cell? ⟨b1, o1 + v, none⟩ = some (.int .i64 r) := (hxc.cell (p := ⟨b1, o1 + v, none⟩) (cell_lt2 e2)).trans e2
              obtain ⟨n1, n2, n3, n4⟩ := HNX.out (.inl hneg) w2 hB (he.trans hxc)
              clear hw2 hB hcell hf e1 e2 HNX
              go_wp2_with fail
              all_goals first | (exfalso; omega) | skip
              go_roundw
              case rel => exact ⟨v + 1, up.set cc r, by omega, by go_num, by rw [HMO.out]; congr 1; omega, n2, n1, n3, n4⟩
              case measure => simp [intOf]; omega
          · have q1 : decide (u ≥ 0) = true := by simp; omega
            go_cut [44] (fun tv wc => tv = .bool (u != r) ∧ Ext wz wc)
            case first =>
              go_region_held3 (fun w' => Ext wz w' ∧ w'.cell? ⟨w.heap.size, cc, none⟩ = some (.int .i64 u) ∧ w'.cell? ⟨b1, o1 + v, none⟩ = some (.int .i64 r))
                (first | assumption | exact ⟨Ext.dr (Ext.refl _), hcell, e2⟩ | exact keptQ (by assumption) (by assumption))
                (first | fail)
              go_wp2_with fail
              go_meet
              exact ⟨rfl, Ext.dr (Ext.refl _)⟩
            case rest =>
              obtain ⟨rfl, hxc⟩ := hcut
              by_cases hur : u = r
              · have q2 : (u != r) = false := by simp [hur]
                obtain ⟨w2, hw2⟩ : ∃ w2 : World, w2 = wc := ⟨_, rfl⟩
                rw [← hw2] at hxc ⊢
                have hB := HBZ.out.ext hxc
                have hcell2 : w2.cell? ⟨w.heap.size, cc, none⟩ = some (.int .i64 u) := (hxc.cell (p := ⟨w.heap.size, cc, none⟩) hlt).trans hcell
                have hf2 := hB.frozen cc
                have hlt2 := hB.lt
                have e22 : w2.cell? ⟨b1, o1 + v, none⟩ = some (.int .i64 r) := (hxc.cell (p := ⟨b1, o1 + v, none⟩) (cell_lt2 e2)).trans e2
                obtain ⟨n1, n2, n3, n4⟩ := HNX.out (.inr hur) w2 hB (he.trans hxc)
                clear hw2 hB hcell hf e1 e2 HNX
                go_wp2_with fail
                all_goals first | (exfalso; omega) | skip
                go_roundw
                case rel => exact ⟨v + 1, up.set cc r, by omega, by go_num, by rw [HMO.out]; congr 1; omega, n2, n1, n3, n4⟩
                case measure => simp [intOf]; omega
              · have q2 : (u != r) = true := by simp [hur]
                have hno : Hid (¬ NestRow low row) := Lib.hid (by
                  rcases hok.out.1.from_ cc u HU.out with h | ⟨v', h1, h2, h3⟩
                  · omega
                  · exact nest_not h2 HX.out h3 HR.out hur)
                have hE9 := he.trans hxc
                clear HNX hok
                go_wp2_with fail
                all_goals first | (exfalso; omega) | skip
                go_ret
                exact ⟨false, rfl, ⟨fun h => (by cases h), fun h => absurd h hno.out⟩, hE9⟩
        · obtain rfl : v = k := by omega
          rw [List.take_of_length_le (by rw [HL.out]; omega)] at hm0 hm1 ⊢
          obtain ⟨mm, hmm⟩ : ∃ mm : Nat, mostOf low = (mm : Int) := ⟨(mostOf low).toNat, by omega⟩
          have hsl : Sl rI (fun b => w.heap.size ≤ b) wz (some ⟨w.heap.size, 0, none⟩) v v up := Sl.of_blk_ints hb hul (by unfold maxLen; omega) (Nat.le_refl _) (fun y hy => by
            have := hok.out.2 y hy
            exact WalkArith.wf_i64 (by omega))
          rw [hmm] at hm1 ⊢
          have HSL := Lib.hid (hsl.take (k := mm) (by omega))
          have hni : NestRow low row ↔ Rising (up.take mm) mm := by
            rw [nest_iff H1.out H2.out (by rw [HL.out, HM.out]) (fun a x y h1 h2 => hok.out.1.here a x y (by have := (List.getElem?_eq_some_iff.1 h1).1; rw [HL.out] at this; exact this) h1 h2), hmm, Int.toNat_natCast]
            constructor
            · intro h c y z hc hy hz
              rw [List.getElem?_take, if_pos (by omega)] at hy hz
              exact h c y z hc hy hz
            · intro h c y z hc hy hz
              exact h c y z hc (by rw [List.getElem?_take, if_pos (by omega)]; exact hy) (by rw [List.getElem?_take, if_pos (by omega)]; exact hz)
          have HNI := Lib.hid hni
          have a1 : IntKind.i64.wrap ((mm : Int) - 1 + 1) = (mm : Int) := by rw [show (mm : Int) - 1 + 1 = (mm : Int) by omega]; exact IntWalk.i64_in _ (by omega)
          have a2 : (mm : Int) - 1 + 1 = (mm : Int) := by omega
          have a3 : mm ≤ v := by omega
          have a4 : IntKind.i64.wrap (mm : Int) = (mm : Int) := IntWalk.i64_in _ (by omega)
          clear hb hok hsl hmm hm0 hni
          go_wp2_with fail
          all_goals first | (exfalso; omega) | skip
          refine (isSorted_c HSL.out).mono ?_
          rintro e w2 ⟨b, rfl, hb2, he2⟩
          have hb3 : b = true ↔ NestRow low row := by rw [HNI.out]; exact hb2
          have HB3 := Lib.hid hb3
          have hE9 := he.trans he2
          clear hb2 hb3
          go_wp2_with fail
          go_ret
          exact ⟨b, rfl, HB3.out, hE9⟩
end
end Go.Proofs.YtlaobpnbnfoadaaGreatDoor
