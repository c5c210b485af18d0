/-
  Contracts of rim.Cross and rim.Inside: which arcs they tell. Conditions: the readings.
-/
import Derived.Test.YtlaobpnbnfoadaaRim2
namespace Go.Proofs.Ytlaobpnbnfoadaa
set_option linter.unusedVariables false
set_option linter.unusedSimpArgs false
set_option linter.unusedSectionVars false
set_option linter.unnecessarySimpa false
open Go Go.RowKit


/-- Of the arcs below k those that a test takes, in their order. -/
def pick (f : Int → Bool) (k : Nat) : List Int := ((List.range k).filter fun (a : Nat) => f a).map fun (a : Nat) => (a : Int)
theorem pick_yes {f : Int → Bool} {k : Nat} (h : f k = true) : pick f (k + 1) = pick f k ++ [(k : Int)] := by
  simp [pick, List.range_succ, List.filter_append, h]
theorem pick_no {f : Int → Bool} {k : Nat} (h : f k = false) : pick f (k + 1) = pick f k := by
  simp [pick, List.range_succ, List.filter_append, h]
theorem pick_len (f : Int → Bool) (k : Nat) : (pick f k).length ≤ k := by
  have := List.length_filter_le (fun (a : Nat) => f a) (List.range k)
  simpa [pick] using this
theorem pick_wf {f : Int → Bool} {k : Nat} (h : k ≤ 9223372036854775807) : ∀ x ∈ pick f k, (Lit.int .i64 x).wf = true := by
  intro x hx
  obtain ⟨a, ha, rfl⟩ := List.mem_map.1 hx
  have := List.mem_range.1 (List.mem_filter.1 ha).1
  exact wf_nat (by omega)

section
variable {F G : Nat → Prop} {A B : Option Addr} {n c m d : Nat} {arcs : List Tri} {p : List (List Int)} {g : Nat} {w : World}
set_option maxHeartbeats 1000000 in
theorem rimCross_c (l : Int) (hm6 : m ≤ 1000000) (hg : w.cell? ⟨g, 1, none⟩ = some (.slice B m d)) (hs : Sl rTri G w B m d arcs) (hp : Sl (Rd.slice rI) F w A n c p) :
    Calls Try.prog 14 #[.pointer (some ⟨g, 0, none⟩), .agg #[.slice A n c], .int .i64 l] w (FreshInts w (pick (fun a => crossB p arcs a l) m)) := by
  have hgl := World.block_lt_of_cell? w _ hg
  go_enter Try.func14, Try.ntmps14
  go_wp2_with fail
  refine (row_c _ _ (hp.alloc _)).mono ?_
  rintro e w1 ⟨A', n', c', rfl, hs1, he1⟩
  have hx1 : Ext w w1 := Ext.trans (Ext.al (Ext.refl w)) he1
  clear he1
  have hg1 : w1.cell? ⟨g, 1, none⟩ = some (.slice B m d) := (hx1.cell (p := ⟨g, 1, none⟩) hgl).trans hg
  have hgl1 := World.block_lt_of_cell? w1 _ hg1
  have hr1 := hs1.lt
  have ha1 := (hs.ext hx1).lt
  have hz1 := hx1.size
  have hx1' := Lib.hid hx1
  clear hx1 hs1 hg
  go_wp2_with fail
  refine (Arcs_c hg1).mono ?_
  rintro e w' ⟨rfl, rfl⟩
  go_wp2_with fail
  go_loopw [8, 18] (fun v i wr => ∃ k : Nat, k ≤ m ∧ i = .int .i64 k ∧ wr.ownsRow w1.heap.size 3 1 v (pick (fun a => crossB p arcs a l) k).length ((pick (fun a => crossB p arcs a l) k).map (Value.int .i64)) ∧ Below w1.heap.size w1 wr) (fun _ i _ => m - (intOf i).toNat)
  case atStart => exact ⟨0, Nat.zero_le _, rfl, World.ownsRow_nil _ _ _ _, Below.refl _ _⟩
  case round =>
    obtain ⟨k, hk, rfl, hown, hbel⟩ := hrel
    have hpl := pick_len (fun a => crossB p arcs a l) k
    by_cases hkm : k < m
    · have hgr : wr.cell? ⟨g, 1, none⟩ = some (.slice B m d) := (hbel.cell (p := ⟨g, 1, none⟩) hgl1).trans hg1
      go_wp2_with fail
      all_goals first | (exfalso; omega) | skip
      refine (ends_c _ hgr (ha1.below hbel (fun _ h _ => h)) (hr1.below hbel (fun _ h _ => h))).mono ?_
      rintro e w2 ⟨x, y, ok, rfl, hok, q, hq⟩
      have he2 : Ext wr w2 := by rw [hq]; exact Ext.drewN _ _
      have hok' := Lib.hid hok
      have hbel2 := below_ext hbel he2 hbel.size
      have hown2 := own_ext hown he2
      clear hok hq hgr hown he2 hbel
      have hcr : crossB p arcs k l = (ok && (x != y)) := by unfold crossB; rw [hok'.out]; cases ok <;> rfl
      have hcr' := Lib.hid hcr
      clear hcr
      cases ok
      · have hcf := Lib.hid (pick_no (f := fun a => crossB p arcs a l) (k := k) (by rw [hcr'.out]; rfl))
        go_wp2_with fail
        all_goals first | (exfalso; omega) | skip
        go_roundw
        case rel => exact ⟨k + 1, by omega, by go_num, by rw [hcf.out]; exact hown2, hbel2⟩
        case measure => simp [intOf]; omega
      · by_cases hxy : x = y
        · have hb : (x != y) = false := by simpa using hxy
          have hcf := Lib.hid (pick_no (f := fun a => crossB p arcs a l) (k := k) (by rw [hcr'.out, hb]; rfl))
          clear hxy
          go_wp2_with fail
          all_goals first | (exfalso; omega) | skip
          go_roundw
          case rel => exact ⟨k + 1, by omega, by go_num, by rw [hcf.out]; exact hown2, hbel2⟩
          case measure => simp [intOf]; omega
        · have hb : (x != y) = true := by simpa using hxy
          have hcf := Lib.hid (pick_yes (f := fun a => crossB p arcs a l) (k := k) (by rw [hcr'.out, hb]; rfl))
          clear hxy
          have hz2 := hbel2.size
          go_wp2_with (at_builtin; refine wpL_append1 tyInts rfl (.tmp 35) (.tmp 37) rfl rfl hown2 #[.int .i64 k] rfl rfl (by simp [Value.oneCell']) (by omega) hz2 ?_; intro g3 cap w3 hown3 hgr3 hat3 hlt3)
          all_goals first | (exfalso; omega) | skip
          go_roundw
          case rel => exact ⟨k + 1, by omega, by go_num, by rw [hcf.out]; simpa using hown3, below_own hbel2 hown2 hgr3 (Nat.le_refl _) hz2⟩
          case measure => simp [intOf]; omega
    · obtain rfl : k = m := by omega
      obtain ⟨A4, c4, rfl, -⟩ := own_shape hown
      go_wp2_with fail
      all_goals first | (exfalso; omega) | skip
      go_ret
      exact ⟨_, _, _, rfl, Sl.of_own_ints hown (fun g h => by omega) (pick_wf (by omega)), Ext.trans hx1'.out hbel⟩
/-- Are both ends of an arc in a cell? -/
def insideB (p : List (List Int)) (arcs : List Tri) (a : Int) (l cl : Int) : Bool :=
  match endsOf (lvl p l) arcs a with
  | some (x, y) => x == cl && y == cl
  | none => false
set_option maxHeartbeats 1000000 in
theorem rimInside_c (l cl : Int) (hm6 : m ≤ 1000000) (hg : w.cell? ⟨g, 1, none⟩ = some (.slice B m d)) (hs : Sl rTri G w B m d arcs) (hp : Sl (Rd.slice rI) F w A n c p) :
    Calls Try.prog 16 #[.pointer (some ⟨g, 0, none⟩), .agg #[.slice A n c], .int .i64 l, .int .i64 cl] w (FreshInts w (pick (fun a => insideB p arcs a l cl) m)) := by
  have hgl := World.block_lt_of_cell? w _ hg
  go_enter Try.func16, Try.ntmps16
  go_wp2_with fail
  refine (row_c _ _ (hp.alloc _)).mono ?_
  rintro e w1 ⟨A', n', c', rfl, hs1, he1⟩
  have hx1 : Ext w w1 := Ext.trans (Ext.al (Ext.refl w)) he1
  clear he1
  have hg1 : w1.cell? ⟨g, 1, none⟩ = some (.slice B m d) := (hx1.cell (p := ⟨g, 1, none⟩) hgl).trans hg
  have hgl1 := World.block_lt_of_cell? w1 _ hg1
  have hr1 := hs1.lt
  have ha1 := (hs.ext hx1).lt
  have hz1 := hx1.size
  have hx1' := Lib.hid hx1
  clear hx1 hs1 hg
  go_wp2_with fail
  refine (Arcs_c hg1).mono ?_
  rintro e w' ⟨rfl, rfl⟩
  go_wp2_with fail
  go_loopw [10, 20] (fun v i wr => ∃ k : Nat, k ≤ m ∧ i = .int .i64 k ∧ wr.ownsRow w1.heap.size 3 1 v (pick (fun a => insideB p arcs a l cl) k).length ((pick (fun a => insideB p arcs a l cl) k).map (Value.int .i64)) ∧ Below w1.heap.size w1 wr) (fun _ i _ => m - (intOf i).toNat)
  case atStart => exact ⟨0, Nat.zero_le _, rfl, World.ownsRow_nil _ _ _ _, Below.refl _ _⟩
  case round =>
    obtain ⟨k, hk, rfl, hown, hbel⟩ := hrel
    have hpl := pick_len (fun a => insideB p arcs a l cl) k
    by_cases hkm : k < m
    · have hgr : wr.cell? ⟨g, 1, none⟩ = some (.slice B m d) := (hbel.cell (p := ⟨g, 1, none⟩) hgl1).trans hg1
      go_wp2_with fail
      all_goals first | (exfalso; omega) | skip
      refine (ends_c _ hgr (ha1.below hbel (fun _ h _ => h)) (hr1.below hbel (fun _ h _ => h))).mono ?_
      rintro e w2 ⟨x, y, ok, rfl, hok, q, hq⟩
      have he2 : Ext wr w2 := by rw [hq]; exact Ext.drewN _ _
      have hok' := Lib.hid hok
      have hbel2 := below_ext hbel he2 hbel.size
      have hown2 := own_ext hown he2
      clear hok hq hgr hown he2 hbel
      have hcr : insideB p arcs k l cl = (ok && (x == cl && y == cl)) := by unfold insideB; rw [hok'.out]; cases ok <;> rfl
      have hcr' := Lib.hid hcr
      clear hcr
      cases ok
      · have hcf := Lib.hid (pick_no (f := fun a => insideB p arcs a l cl) (k := k) (by rw [hcr'.out]; rfl))
        go_wp2_with fail
        all_goals first | (exfalso; omega) | skip
        go_roundw
        case rel => exact ⟨k + 1, by omega, by go_num, by rw [hcf.out]; exact hown2, hbel2⟩
        case measure => simp [intOf]; omega
      · by_cases hxy : x = cl
        · have hb : (x == cl) = true := by simpa using hxy
          clear hxy
          by_cases hxy : y = cl
          · have hb2 : (y == cl) = true := by simpa using hxy
            have hcf := Lib.hid (pick_yes (f := fun a => insideB p arcs a l cl) (k := k) (by rw [hcr'.out, hb, hb2]; rfl))
            clear hxy
            have hz2 := hbel2.size
            go_wp2_with (at_builtin; refine wpL_append1 tyInts rfl (.tmp 42) (.tmp 44) rfl rfl hown2 #[.int .i64 k] rfl rfl (by simp [Value.oneCell']) (by omega) hz2 ?_; intro g3 cap w3 hown3 hgr3 hat3 hlt3)
            all_goals first | (exfalso; omega) | skip
            go_roundw
            case rel => exact ⟨k + 1, by omega, by go_num, by rw [hcf.out]; simpa using hown3, below_own hbel2 hown2 hgr3 (Nat.le_refl _) hz2⟩
            case measure => simp [intOf]; omega
          · have hb2 : (y == cl) = false := by simpa using hxy
            have hcf := Lib.hid (pick_no (f := fun a => insideB p arcs a l cl) (k := k) (by rw [hcr'.out, hb2]; simp))
            clear hxy
            go_wp2_with fail
            all_goals first | (exfalso; omega) | skip
            go_roundw
            case rel => exact ⟨k + 1, by omega, by go_num, by rw [hcf.out]; exact hown2, hbel2⟩
            case measure => simp [intOf]; omega
        · have hb : (x == cl) = false := by simpa using hxy
          have hcf := Lib.hid (pick_no (f := fun a => insideB p arcs a l cl) (k := k) (by rw [hcr'.out, hb]; rfl))
          clear hxy
          go_wp2_with fail
          all_goals first | (exfalso; omega) | skip
          go_roundw
          case rel => exact ⟨k + 1, by omega, by go_num, by rw [hcf.out]; exact hown2, hbel2⟩
          case measure => simp [intOf]; omega
    · obtain rfl : k = m := by omega
      obtain ⟨A4, c4, rfl, -⟩ := own_shape hown
      go_wp2_with fail
      all_goals first | (exfalso; omega) | skip
      go_ret
      exact ⟨_, _, _, rfl, Sl.of_own_ints hown (fun g h => by omega) (pick_wf (by omega)), Ext.trans hx1'.out hbel⟩
end
end Go.Proofs.Ytlaobpnbnfoadaa
