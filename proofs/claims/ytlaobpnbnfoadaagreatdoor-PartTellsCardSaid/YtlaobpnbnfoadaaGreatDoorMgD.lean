/-
  part.Common, part.numbers and both Counts, stepped through. Conditions: the readings of the slices; rows alike in length, of few numbers.
-/
import Derived.Test.YtlaobpnbnfoadaaGreatDoorMgF
import Derived.Test.YtlaobpnbnfoadaaGreatDoorMgC
import Derived.Shelf.Sort.Plain
import Derived.Shelf.Slices.CompactI
namespace Go.Proofs.YtlaobpnbnfoadaaGreatDoor
set_option linter.unusedVariables false
set_option linter.unusedSimpArgs false
set_option linter.unusedSectionVars false
set_option linter.unnecessarySimpa false
open Go Go.RowKit

theorem comIdx_at {p : List (List Int)} {a b k : Nat} {r : List Int} (h : ∀ (j : Nat) (r : List Int), j < k → p[j]? = some r → r[a]? ≠ r[b]?) (hk : p[k]? = some r) (he : r[a]? = r[b]?) : comIdx p a b = k := by
  have hkl := (List.getElem?_eq_some_iff.1 hk).1
  rcases Nat.lt_trichotomy (comIdx p a b) k with h1 | h1 | h1
  · exact absurd (comIdx_eq (p := p) (a := a) (b := b) (r := p[comIdx p a b]'(by omega)) (List.getElem?_eq_getElem _)) (h _ _ h1 (List.getElem?_eq_getElem _))
  · exact h1
  · exact absurd he (comIdx_ne h1 hk)
theorem comIdx_end {p : List (List Int)} {a b : Nat} (h : ∀ (j : Nat) (r : List Int), p[j]? = some r → r[a]? ≠ r[b]?) : comIdx p a b = p.length := by
  have hle := comIdx_le p a b
  rcases Nat.lt_or_ge (comIdx p a b) p.length with h1 | h1
  · exact absurd (comIdx_eq (p := p) (a := a) (b := b) (r := p[comIdx p a b]'h1) (List.getElem?_eq_getElem _)) (h _ _ (List.getElem?_eq_getElem _))
  · omega
section
variable {F : Nat → Prop} {A : Option Addr} {n c nv a b : Nat} {p : List (List Int)} {w : World}
set_option maxRecDepth 100000 in
set_option maxHeartbeats 4000000 in
theorem Common_c (hp : Sl rRows F w A n c p) (hrows : ∀ x ∈ p, x.length = nv) (ha : a < nv) (hb : b < nv) (hn : n ≤ 1000) :
    Calls Tryz.prog 24 #[.agg #[.slice A n c], .int .i64 a, .int .i64 b] w fun e w' => e = .returned (.int .i64 ((comIdx p a b : Nat) + 1)) ∧ Ext w w' := by
  have L := Lib.hid hp.len
  have HR := Lib.hid hrows
  clear hrows
  go_enter Tryz.func24, Tryz.ntmps24
  go_wp2_with fail
  obtain ⟨wo, hwo⟩ : ∃ wo : World, wo = w.alloc (.cells #[.slice A n c] 32) := ⟨_, rfl⟩
  have hE : Ext w wo := by rw [hwo]; exact (by repeat (first | exact Ext.refl _ | assumption | refine Ext.al ?_ | refine Ext.dr ?_ | refine Ext.dn ?_ | (refine Ext.st ?_ ?_; · first | omega | (simp; done) | (simp; omega)) | refine Ext.trans ?_ (by assumption)))
  have q0 : wo.cell? ⟨w.heap.size, 0, none⟩ = some (.slice A n c) := by rw [hwo]; simp
  rw [← hwo]
  clear hwo
  go_loopw [12] (fun i wr => ∃ k q : Nat, k ≤ n ∧ i = .int .i64 k ∧ wr = wo.drewN q ∧ Hid (∀ (j : Nat) (r : List Int), j < k → p[j]? = some r → r[a]? ≠ r[b]?)) (fun i _ => n - (intOf i).toNat)
  case atStart => exact ⟨0, 0, Nat.zero_le _, rfl, rfl, fun j _ h => absurd h (by omega)⟩
  case round =>
    obtain ⟨k, q, hk, rfl, rfl, hs1⟩ := hrel
    by_cases hkn : k < n
    · obtain ⟨b1, o1, A1, n1, c1, x, rfl, hb1, hx, e1, hr⟩ := (hp.ext hE).row hkn
      have hnv := HR.out x (List.mem_of_getElem? hx.out)
      rw [hr.len] at hnv
      subst hnv
      obtain ⟨b2, o2, xa, hA, hb2, hxa, e2, -, -⟩ := hr.int ha
      obtain ⟨b3, o3, xb, hA', hb3, hxb, e3, -, -⟩ := hr.int hb
      subst hA
      injection hA' with hA'
      injection hA' with ea eb
      subst ea eb
      by_cases hxy : xa = xb
      · have hd : (xa == xb) = true := by simpa using hxy
        have hci := Lib.hid (comIdx_at hs1.out hx.out (by rw [hxa.out, hxb.out, hxy]))
        go_wp2_with (go_quiet (fail))
        all_goals first | (exfalso; omega) | skip
        go_ret
        exact ⟨by rw [hci.out]; try rfl, Ext.dn hE⟩
      · have hd : (xa == xb) = false := by simpa using hxy
        go_wp2_with (go_quiet (fail))
        all_goals first | (exfalso; omega) | skip
        go_roundw
        case rel => exact ⟨k + 1, _, by omega, by go_num, (by first | exact rfl | exact World.drewN_drewN _ _ _), all_step hs1.out hx.out (by rw [hxa.out, hxb.out]; simpa using hxy)⟩
        case measure => simp [intOf]; omega
    · obtain rfl : k = n := by omega
      have hci : comIdx p a b = k := by
        rw [comIdx_end (fun j r hj => hs1.out j r (by rw [← L.out]; exact (List.getElem?_eq_some_iff.1 hj).1) hj), L.out]
      have HCI := Lib.hid hci
      clear hci
      go_wp2_with fail
      all_goals first | (exfalso; omega) | skip
      go_ret
      exact ⟨by rw [HCI.out]; try rfl, Ext.dn hE⟩
set_option maxHeartbeats 2000000 in
theorem numbers_c (l : Int) (hp : Sl rRows F w A n c p) :
    Calls Tryz.prog 42 #[.agg #[.slice A n c], .int .i64 l] w fun e w' => ∃ A' n' c', e = .returned (.slice A' n' c') ∧ Sl rI F w' A' n' c' (lvl p l) ∧ Ext w w' := by
  by_cases h : 1 ≤ l
  · by_cases h2 : l ≤ n
    · obtain ⟨k, rfl⟩ : ∃ k : Nat, l = (k : Int) + 1 := ⟨(l - 1).toNat, by omega⟩
      have hk : k < n := by omega
      obtain ⟨b, o, A', n', c', x, rfl, hb, hx, hc, hs⟩ := hp.row hk
      have hm := hp.max
      have hl := hp.le
      unfold maxLen at hm
      go_enter Tryz.func42, Tryz.ntmps42
      have hv : lvl p ((k : Int) + 1) = x := by rw [lvl, if_pos h, show ((k : Int) + 1 - 1).toNat = k by omega, hx.out]; rfl
      have hv' := Lib.hid hv
      clear hv
      go_wp2_with fail
      all_goals first | (exfalso; omega) | (go_ret; exact ⟨_, _, _, rfl, by rw [hv'.out]; exact hs.ext (by repeat (first | exact Ext.refl _ | assumption | refine Ext.al ?_ | refine Ext.dr ?_ | refine Ext.dn ?_ | (refine Ext.st ?_ ?_; · first | omega | (simp; done) | (simp; omega)) | refine Ext.trans ?_ (by assumption))), (by repeat (first | exact Ext.refl _ | assumption | refine Ext.al ?_ | refine Ext.dr ?_ | refine Ext.dn ?_ | (refine Ext.st ?_ ?_; · first | omega | (simp; done) | (simp; omega)) | refine Ext.trans ?_ (by assumption)))⟩)
    · have hv : lvl p l = [] := by rw [lvl, if_pos h, List.getElem?_eq_none (by rw [hp.len]; omega)]; rfl
      have hv' := Lib.hid hv
      clear hv
      go_enter Tryz.func42, Tryz.ntmps42
      go_wp2_with fail
      all_goals first | (exfalso; omega) | (go_ret; exact ⟨_, _, _, rfl, by rw [hv'.out]; exact Sl.nil _ _ _, (by repeat (first | exact Ext.refl _ | assumption | refine Ext.al ?_ | refine Ext.dr ?_ | refine Ext.dn ?_ | (refine Ext.st ?_ ?_; · first | omega | (simp; done) | (simp; omega)) | refine Ext.trans ?_ (by assumption)))⟩)
  · have hv : lvl p l = [] := by rw [lvl, if_neg (by omega)]
    have hv' := Lib.hid hv
    clear hv
    go_enter Tryz.func42, Tryz.ntmps42
    go_wp2_with fail
    all_goals first | (exfalso; omega) | (go_ret; exact ⟨_, _, _, rfl, by rw [hv'.out]; exact Sl.nil _ _ _, (by repeat (first | exact Ext.refl _ | assumption | refine Ext.al ?_ | refine Ext.dr ?_ | refine Ext.dn ?_ | (refine Ext.st ?_ ?_; · first | omega | (simp; done) | (simp; omega)) | refine Ext.trans ?_ (by assumption)))⟩)
set_option maxHeartbeats 2000000 in
theorem refCount_c {k : Nat} {r : List Int} (hp : Sl rRows F w A n c p) (hr : p[k]? = some r) (hin : ∀ x ∈ r, -1000000 ≤ x ∧ x ≤ 1000000) :
    Calls Tryz.prog 16 #[.agg #[.slice A n c], .int .i64 ((k : Int) + 1)] w fun e w' => e = .returned (.int .i64 (mostOf r)) ∧ Ext w w' := by
  have hk : k < n := by rw [← hp.len]; exact (List.getElem?_eq_some_iff.1 hr).1
  have hm := hp.max
  have hl := hp.le
  unfold maxLen at hm
  have HIN := Lib.hid hin
  clear hin
  obtain ⟨b, o, A1, n1, c1, x, rfl, hb, hx, e1, hs⟩ := hp.row hk
  obtain rfl : x = r := Option.some.inj (hx.out.symm.trans hr)
  clear hr hx
  go_enter Tryz.func16, Tryz.ntmps16
  go_wp2_with fail
  all_goals first | (exfalso; omega) | skip
  refine (Has_c _ _).mono ?_
  rintro e w1 ⟨rfl, he1⟩
  have hd : decide (1 ≤ (k : Int) + 1 ∧ (k : Int) + 1 ≤ n) = true := by simp; omega
  rw [hd]
  have hE1 : Ext w w1 := Ext.trans (Ext.al (Ext.refl w)) he1
  have q0 : w1.cell? ⟨w.heap.size, 0, none⟩ = some (.slice (some ⟨b, o, none⟩) n c) := (he1.cell (p := ⟨w.heap.size, 0, none⟩) (by simp)).trans (by simp)
  have e2 : w1.cell? ⟨b, o + k, none⟩ = some (.slice A1 n1 c1) := (hE1.cell (p := ⟨b, o + k, none⟩) hb).trans e1
  have hs1 := hs.ext hE1
  clear he1 hd
  go_wp2_with fail
  all_goals first | (exfalso; omega) | skip
  refine (most_c hs1 HIN.out).mono ?_
  rintro e w2 ⟨rfl, rfl⟩
  go_wp2_with fail
  go_ret
  exact ⟨rfl, hE1⟩
end
end Go.Proofs.YtlaobpnbnfoadaaGreatDoor
/-
  Contract of part.Count: one more than the greatest number of a level. Conditions: the readings; rows of few numbers.
-/
namespace Go.Proofs.YtlaobpnbnfoadaaGreatDoor
set_option linter.unusedVariables false
set_option linter.unusedSimpArgs false
set_option linter.unusedSectionVars false
set_option linter.unnecessarySimpa false
open Go Go.RowKit

section
variable {F : Nat → Prop} {A : Option Addr} {n c : Nat} {p : List (List Int)} {w : World}
set_option maxRecDepth 100000 in
set_option maxHeartbeats 4000000 in
theorem Count_c (l : Int) (hp : Sl rRows F w A n c p) (hin : ∀ x ∈ lvl p l, -1000000 ≤ x ∧ x ≤ 1000000) :
    Calls Tryz.prog 15 #[.agg #[.slice A n c], .int .i64 l] w fun e w' => e = .returned (.int .i64 (mostOf (lvl p l))) ∧ Ext w w' := by
  have HIN := Lib.hid hin
  clear hin
  go_enter Tryz.func15, Tryz.ntmps15
  go_wp2_with fail
  refine (numbers_c l (hp.ext (by repeat (first | exact Ext.refl _ | assumption | refine Ext.al ?_ | refine Ext.dr ?_ | refine Ext.dn ?_ | (refine Ext.st ?_ ?_; · first | omega | (simp; done) | (simp; omega)) | refine Ext.trans ?_ (by assumption))))).mono ?_
  rintro e w1 ⟨A1, n1, c1, rfl, hs1, he1⟩
  have hE1 : Ext w w1 := Ext.trans (by repeat (first | exact Ext.refl _ | assumption | refine Ext.al ?_ | refine Ext.dr ?_ | refine Ext.dn ?_ | (refine Ext.st ?_ ?_; · first | omega | (simp; done) | (simp; omega)) | refine Ext.trans ?_ (by assumption))) he1
  have hm := hs1.max
  have hl := hs1.le
  unfold maxLen at hm
  clear he1
  go_wp2_with fail
  go_loop [5, 12] (fun a i => ∃ k : Nat, k ≤ n1 ∧ i = .int .i64 k ∧ a = .int .i64 (mostOf ((lvl p l).take k))) (fun _ i => n1 - (intOf i).toNat)
  case atStart => exact ⟨0, Nat.zero_le _, rfl, rfl⟩
  case round =>
    obtain ⟨k, hk, rfl, rfl⟩ := hrel
    by_cases hkn : k < n1
    · obtain ⟨b, o, x, rfl, hbl, hxx, c0, -, -⟩ := hs1.int hkn
      obtain ⟨x0, x1⟩ := HIN.out x (List.mem_of_getElem? hxx.out)
      have hsu := Lib.hid (mostOf_succ hxx.out)
      obtain ⟨mo, hmo⟩ : ∃ mo, mostOf ((lvl p l).take k) = mo := ⟨_, rfl⟩
      rw [hmo]
      have HMO := Lib.hid hmo
      clear hmo
      by_cases hge : mo ≤ x
      · go_wp2_with fail
        all_goals first | (exfalso; omega) | skip
        go_round
        case rel => exact ⟨k + 1, by omega, by go_num, by rw [hsu.out, HMO.out]; congr 1; omega⟩
        case measure => simp [intOf]; omega
      · go_wp2_with fail
        all_goals first | (exfalso; omega) | skip
        go_round
        case rel => exact ⟨k + 1, by omega, by go_num, by rw [hsu.out, HMO.out]; congr 1; omega⟩
        case measure => simp [intOf]; omega
    · obtain rfl : k = n1 := by omega
      have ht : (lvl p l).take k = lvl p l := List.take_of_length_le (by rw [hs1.len]; omega)
      rw [ht]
      go_wp2_with fail
      all_goals first | (exfalso; omega) | skip
      go_ret
      exact ⟨rfl, hE1⟩
end
end Go.Proofs.YtlaobpnbnfoadaaGreatDoor
/-
  Contracts of slices.Sort and slices.Compact at []int over this seat's program, laid off the shelf.
-/
namespace Go.Proofs
def Tryz.laysSort_ren : Go.Shelf.Ren := ⟨fun | 189 => 46 | 125 => 72 | 257 => 71 | 128 => 93 | 129 => 94 | 294 => 85 | 295 => 86 | 296 => 87 | 297 => 88 | 298 => 89 | 299 => 90 | 216 => 84 | 300 => 91 | 301 => 92 | 328 => 100 | 329 => 101 | 330 => 102 | 331 => 103 | 332 => 104 | 215 => 99 | 343 => 114 | n => n, fun | 28 => 25 | 3 => 3 | 46 => 125 | 0 => 0 | 51 => 159 | 53 => 55 | 4 => 4 | 183 => 152 | 182 => 151 | 131 => 156 | 5 => 5 | 9 => 9 | 218 => 164 | 222 => 168 | 228 => 177 | 229 => 178 | n => n, fun | n => n⟩
theorem Tryz.laysSort : Go.Proofs.Lays.n189 Tryz.prog Tryz.laysSort_ren := {
  mixed := by kernel_rfl
  f125 := Tryz.func72.trans (congrArg some (by kernel_rfl))
  f128 := Tryz.func93.trans (congrArg some (by kernel_rfl))
  f129 := Tryz.func94.trans (congrArg some (by kernel_rfl))
  f189 := Tryz.func46.trans (congrArg some (by kernel_rfl))
  f215 := Tryz.func99.trans (congrArg some (by kernel_rfl))
  f216 := Tryz.func84.trans (congrArg some (by kernel_rfl))
  f257 := Tryz.func71.trans (congrArg some (by kernel_rfl))
  f294 := Tryz.func85.trans (congrArg some (by kernel_rfl))
  f295 := Tryz.func86.trans (congrArg some (by kernel_rfl))
  f296 := Tryz.func87.trans (congrArg some (by kernel_rfl))
  f297 := Tryz.func88.trans (congrArg some (by kernel_rfl))
  f298 := Tryz.func89.trans (congrArg some (by kernel_rfl))
  f299 := Tryz.func90.trans (congrArg some (by kernel_rfl))
  f300 := Tryz.func91.trans (congrArg some (by kernel_rfl))
  f301 := Tryz.func92.trans (congrArg some (by kernel_rfl))
  f328 := Tryz.func100.trans (congrArg some (by kernel_rfl))
  f329 := Tryz.func101.trans (congrArg some (by kernel_rfl))
  f330 := Tryz.func102.trans (congrArg some (by kernel_rfl))
  f331 := Tryz.func103.trans (congrArg some (by kernel_rfl))
  f332 := Tryz.func104.trans (congrArg some (by kernel_rfl))
  f343 := Tryz.func114.trans (congrArg some (by kernel_rfl))
  t0 := Tryz.underlying0
  a0 := Tryz.isAgg0
  z0 := Tryz.sizeOf0
  v0 := Tryz.zeroValue0
  t3 := Tryz.underlying3
  a3 := Tryz.isAgg3
  z3 := Tryz.sizeOf3
  v3 := Tryz.zeroValue3
  t4 := Tryz.underlying4
  a4 := Tryz.isAgg4
  z4 := Tryz.sizeOf4
  v4 := Tryz.zeroValue4
  t5 := Tryz.underlying5
  a5 := Tryz.isAgg5
  z5 := Tryz.sizeOf5
  v5 := Tryz.zeroValue5
  t9 := Tryz.underlying9
  a9 := Tryz.isAgg9
  z9 := Tryz.sizeOf9
  v9 := Tryz.zeroValue9
  t28 := Tryz.underlying25
  a28 := Tryz.isAgg25
  z28 := Tryz.sizeOf25
  v28 := Tryz.zeroValue25
  t46 := Tryz.underlying125
  a46 := Tryz.isAgg125
  z46 := Tryz.sizeOf125
  v46 := Tryz.zeroValue125
  t51 := Tryz.underlying159
  a51 := Tryz.isAgg159
  z51 := Tryz.sizeOf159
  v51 := Tryz.zeroValue159
  t53 := Tryz.underlying55
  a53 := Tryz.isAgg55
  z53 := Tryz.sizeOf55
  v53 := Tryz.zeroValue55
  t131 := Tryz.underlying156
  a131 := Tryz.isAgg156
  z131 := Tryz.sizeOf156
  v131 := Tryz.zeroValue156
  t182 := Tryz.underlying151
  a182 := Tryz.isAgg151
  z182 := Tryz.sizeOf151
  v182 := Tryz.zeroValue151
  t183 := Tryz.underlying152
  a183 := Tryz.isAgg152
  z183 := Tryz.sizeOf152
  v183 := Tryz.zeroValue152
  t218 := Tryz.underlying164
  a218 := Tryz.isAgg164
  z218 := Tryz.sizeOf164
  v218 := Tryz.zeroValue164
  t222 := Tryz.underlying168
  a222 := Tryz.isAgg168
  z222 := Tryz.sizeOf168
  v222 := Tryz.zeroValue168
  t228 := Tryz.underlying177
  a228 := Tryz.isAgg177
  z228 := Tryz.sizeOf177
  v228 := Tryz.zeroValue177
  t229 := Tryz.underlying178
  a229 := Tryz.isAgg178
  z229 := Tryz.sizeOf178
  v229 := Tryz.zeroValue178 }
def Tryz.laysCompact_ren : Go.Shelf.Ren := ⟨fun | 20 => 47 | n => n, fun | 22 => 25 | 3 => 3 | 4 => 4 | 0 => 0 | n => n, fun | n => n⟩
theorem Tryz.laysCompact : Go.Proofs.Lays2.n20 Tryz.prog Tryz.laysCompact_ren := {
  mixed := by kernel_rfl
  f20 := Tryz.func47.trans (congrArg some (by kernel_rfl))
  t0 := Tryz.underlying0
  a0 := Tryz.isAgg0
  z0 := Tryz.sizeOf0
  v0 := Tryz.zeroValue0
  t3 := Tryz.underlying3
  a3 := Tryz.isAgg3
  z3 := Tryz.sizeOf3
  v3 := Tryz.zeroValue3
  t4 := Tryz.underlying4
  a4 := Tryz.isAgg4
  z4 := Tryz.sizeOf4
  v4 := Tryz.zeroValue4
  t22 := Tryz.underlying25
  a22 := Tryz.isAgg25
  z22 := Tryz.sizeOf25
  v22 := Tryz.zeroValue25
  i3 := by kernel_rfl }
end Go.Proofs
namespace Go.Proofs.YtlaobpnbnfoadaaGreatDoor
set_option linter.unusedVariables false
set_option linter.unusedSimpArgs false
set_option linter.unusedSectionVars false
set_option linter.unnecessarySimpa false
open Go Go.RowKit Go.Shelf Go.Sort

theorem sortInt_c (blk off cap : Nat) (zs : List Int) (w : World) (hH : Holds (Value.int .i64) w blk off zs.toArray) (hblk : blk < w.heap.size) (hsz : zs.length < 4611686018427387904) :
    Calls Tryz.prog 46 #[.slice (some ⟨blk, off, none⟩) zs.length cap] w fun e w' =>
      e = .returned (.tuple #[]) ∧ ∃ n os, w' = grow (putRow (Value.int .i64) (Sort.ahead w n) blk off (zs.mergeSort fun x y => decide (x ≤ y)).toArray) os :=
  Any.slices_Sort_int Tryz.laysSort blk off cap zs w hH hblk hsz
theorem compactInt_c (blk off cap : Nat) (zs : List Int) (w : World) (hH : Holds (Value.int .i64) w blk off zs.toArray) (hsz : zs.length ≤ 9223372036854775807) (hcap : zs.length ≤ cap) :
    Calls Tryz.prog 47 #[.slice (some ⟨blk, off, none⟩) zs.length cap] w fun e w' => e = .returned (.slice (some ⟨blk, off, none⟩) (Lib.compact zs).length cap) ∧ ∃ q, w' = putRow (Value.int .i64) (Sort.ahead w q) blk off (Lib.compact zs ++ List.replicate (zs.length - (Lib.compact zs).length) 0).toArray :=
  Any.slices_Compact_int Tryz.laysCompact blk off cap zs w hH hsz hcap
/-- A row that is put into a block of its own leaves all other blocks as they are. -/
theorem below_put {B blk off : Nat} {w : World} {enc : Int → Value} {d : Array Int} (hB : B ≤ blk) : Below B w (putRow enc w blk off d) := by
  refine ⟨rfl, rfl, rfl, Nat.le_of_eq (size_putRow _ _ _ _ _).symm, fun b hb => ?_⟩
  unfold putRow mapBlock
  have hne : blk ≠ b := by omega
  simp [Array.getElem?_modify, hne]
theorem below_grow (w : World) (os : Array Obj) : Ext w (grow w os) := by
  refine ⟨rfl, rfl, rfl, by simp [grow], fun b hb => ?_⟩
  simp [grow, Array.getElem?_append, hb]
theorem below_sorted {B blk off n : Nat} {w w' : World} {enc : Int → Value} {d : Array Int} {os : Array Obj} (hB : B ≤ blk) (hs : B ≤ w.heap.size) (h : w' = grow (putRow enc (Sort.ahead w n) blk off d) os) : Below B w w' := by
  subst h
  have h1 : Below B w (Sort.ahead w n) := ⟨rfl, rfl, rfl, Nat.le_refl _, fun _ _ => rfl⟩
  exact (h1.trans (below_put hB)).trans ((below_grow _ os).mono (by rw [size_putRow]; exact hs))
end Go.Proofs.YtlaobpnbnfoadaaGreatDoor
/-
  Plain law of the kids of a cell: which numbers are left of a sorted row that is compacted. No program in sight.
-/
namespace Go.Proofs.YtlaobpnbnfoadaaGreatDoor
set_option linter.unusedVariables false
set_option linter.unusedSimpArgs false
set_option linter.unusedSectionVars false
set_option linter.unnecessarySimpa false
open Go Go.RowKit Go.Shelf Go.Sort

theorem first_kept (zs : List Int) (x : Int) : ∀ i, i < zs.length → zs[i]? = some x → ∃ j, j < zs.length ∧ zs[j]? = some x ∧ Lib.keeps zs.toArray j = true := by
  intro i
  induction i with
  | zero => exact fun h hx => ⟨0, h, hx, by simp [Lib.keeps]⟩
  | succ i ih =>
    intro h hx
    by_cases he : zs[i]? = some x
    · exact ih (by omega) he
    · refine ⟨i + 1, h, hx, ?_⟩
      have h1 : i < zs.length := by omega
      simp only [Lib.keeps]
      rw [List.getElem?_eq_getElem h] at hx
      rw [List.getElem?_eq_getElem h1] at he
      injection hx with hx
      have hne : ¬ zs[i] = zs[i + 1] := fun e => he (by rw [e, hx])
      simp [h, h1]
      intro e
      exact hne e.symm
theorem compact_mem (zs : List Int) (x : Int) : x ∈ Lib.compact zs ↔ x ∈ zs := by
  unfold Lib.compact Lib.compactUpTo
  constructor
  · intro h
    obtain ⟨i, hi, rfl⟩ := List.mem_map.1 h
    have hi' : i < zs.length := List.mem_range.1 (List.mem_filter.1 hi).1
    simp [getElem!_pos, hi']
  · intro h
    obtain ⟨i, hi⟩ := List.getElem?_of_mem h
    obtain ⟨j, hj, hx, hk⟩ := first_kept zs x i (List.getElem?_eq_some_iff.1 hi).1 hi
    refine List.mem_map.2 ⟨j, List.mem_filter.2 ⟨List.mem_range.2 hj, hk⟩, ?_⟩
    rw [List.getElem?_eq_getElem hj] at hx
    injection hx with hx
    simp [getElem!_pos, hj, hx]
/-- The kids, as they are collected: the numbers below of the vertices of a cell. -/
def kidUp (low row : List Int) (cl : Int) : Nat → List Int
  | 0 => []
  | k + 1 => if row[k]? = some cl then kidUp low row cl k ++ (low[k]?).toList else kidUp low row cl k
theorem kid_mem {low row : List Int} {cl x : Int} : ∀ k, x ∈ kidUp low row cl k ↔ ∃ v, v < k ∧ row[v]? = some cl ∧ low[v]? = some x := by
  intro k
  induction k with
  | zero => simp [kidUp]
  | succ k ih =>
    unfold kidUp
    split
    · rename_i h
      rw [List.mem_append, ih, Option.mem_toList]
      constructor
      · rintro (⟨v, h1, h2, h3⟩ | h1)
        · exact ⟨v, by omega, h2, h3⟩
        · exact ⟨k, by omega, h, by simpa using h1⟩
      · rintro ⟨v, h1, h2, h3⟩
        by_cases e : v = k
        · subst e; right; simpa using h3
        · left; exact ⟨v, by omega, h2, h3⟩
    · rename_i h
      rw [ih]
      constructor
      · rintro ⟨v, h1, h2, h3⟩; exact ⟨v, by omega, h2, h3⟩
      · rintro ⟨v, h1, h2, h3⟩
        refine ⟨v, ?_, h2, h3⟩
        by_cases e : v = k
        · subst e; exact absurd h2 h
        · omega
theorem kidUp_len (low row : List Int) (cl : Int) : ∀ k, (kidUp low row cl k).length ≤ k := by
  intro k
  induction k with
  | zero => simp [kidUp]
  | succ k ih =>
    unfold kidUp
    split
    · cases low[k]? <;> simp <;> omega
    · omega
end Go.Proofs.YtlaobpnbnfoadaaGreatDoor
/-
  Contract of part.Kids: the numbers of the cells below that are in a cell. Conditions: the readings, a cell that has a vertex.
-/
namespace Go.Proofs.YtlaobpnbnfoadaaGreatDoor
set_option linter.unusedVariables false
set_option linter.unusedSimpArgs false
set_option linter.unusedSectionVars false
set_option linter.unnecessarySimpa false
open Go Go.RowKit Go.Shelf Go.Sort

theorem holds_of_own {w : World} {base : Nat} {e : TypeId} {v : Value} {n : Nat} {zs : List Int} (h : w.ownsRow base e 1 v n (zs.map (Value.int .i64))) (hn : 0 < zs.length) (hl : zs.length = n) :
    ∃ g cap, v = .slice (some ⟨g, 0, none⟩) n cap ∧ base ≤ g ∧ g < w.heap.size ∧ n ≤ cap ∧ cap ≤ maxLen ∧ Holds (Value.int .i64) w g 0 zs.toArray := by
  rcases h.2 with ⟨rfl, h0⟩ | ⟨g, cap, cur, rfl, hb, hg, hnc, hcm, hsz, htk⟩
  · subst h0; omega
  · refine ⟨g, cap, rfl, hb, (Array.getElem?_eq_some_iff.1 hg).1, hnc, hcm, fun j hj => ?_⟩
    have hj' : j < zs.length := by simpa using hj
    constructor
    · have h1 : w.cell? ⟨g, 0 + j, none⟩ = cur[j]? := by rw [Nat.zero_add]; exact cell_of_row w g j cur e (0, 0) hg
      rw [h1]
      have h2 : (zs.map (Value.int .i64))[j]? = some (.int .i64 zs[j]) := by simp [hj']
      have h3 : cur[j]? = (zs.map (Value.int .i64))[j]? := by
        rw [← htk]
        simp [List.getElem?_take, show j < n by omega]
      rw [h3, h2]
      simp [getElem!_pos, hj']
    · simp [World.frozen?, hg]
theorem sl_of_holds {F : Nat → Prop} {w : World} {g cap : Nat} {xs ys : List Int} (h : Holds (Value.int .i64) w g 0 (xs ++ ys).toArray) (hF : F g) (hlt : g < w.heap.size) (hc : xs.length ≤ cap) (hm : cap ≤ maxLen) (hw : ∀ x ∈ xs, (Lit.int .i64 x).wf = true) :
    Sl rI F w (some ⟨g, 0, none⟩) xs.length cap xs :=
  ⟨rfl, hc, hm, fun _ => ⟨g, 0, rfl, hF, hlt, fun k x hk => ⟨[.int .i64 x], fun j u hu => by
    cases j with
    | succ j => simp at hu
    | zero =>
      simp at hu
      subst hu
      have hkl := (List.getElem?_eq_some_iff.1 hk).1
      have h1 := (h k (by simp; omega)).1
      have h2 : (xs ++ ys).toArray[k]! = x := by
        rw [getElem!_pos _ _ (by simp; omega)]
        simp [List.getElem_append, hkl, (List.getElem?_eq_some_iff.1 hk).2]
      rw [h2] at h1
      simpa [Rd.int] using h1, rfl, hw x (List.mem_of_getElem? hk)⟩⟩⟩
section
variable {F : Nat → Prop} {A : Option Addr} {n c : Nat} {p : List (List Int)} {w : World}
def KidsPost (p : List (List Int)) (l cl : Int) (w : World) (e : Ending) (w' : World) : Prop :=
  ∃ A n c ks, e = .returned (.slice A n c) ∧ Sl rI (fun b => w.heap.size ≤ b) w' A n c ks ∧ (∀ x, x ∈ ks ↔ 2 ≤ l ∧ ∃ v : Nat, (lvl p l)[v]? = some cl ∧ (lvl p (l - 1))[v]? = some x) ∧ n ≤ (lvl p l).length ∧ Ext w w'
set_option maxRecDepth 100000 in
set_option maxHeartbeats 4000000 in
theorem Kids_c (l cl : Int) (hp : Sl rRows F w A n c p) (hl : 2 ≤ l → l ≤ 1000 ∧ (lvl p l).length ≤ 1000000 ∧ (lvl p (l - 1)).length = (lvl p l).length ∧ cl ∈ lvl p l) :
    Calls Tryz.prog 22 #[.agg #[.slice A n c], .int .i64 l, .int .i64 cl] w (KidsPost p l cl w) := by
  by_cases h2 : l < 2
  · go_enter Tryz.func22, Tryz.ntmps22
    go_wp2_with fail
    all_goals first | (exfalso; omega) | skip
    go_ret
    exact ⟨_, _, _, [], rfl, Sl.nil _ _ _, fun x => by simp; omega, by omega, (by repeat (first | exact Ext.refl _ | assumption | refine Ext.al ?_ | refine Ext.dr ?_ | refine Ext.dn ?_ | (refine Ext.st ?_ ?_; · first | omega | (simp; done) | (simp; omega)) | refine Ext.trans ?_ (by assumption)))⟩
  · obtain ⟨hl1, hl2, hl3, hl4⟩ := hl (by omega)
    have H4 := Lib.hid hl4
    have H3 := Lib.hid hl3
    clear hl hl4 hl3
    go_enter Tryz.func22, Tryz.ntmps22
    go_wp2_with fail
    all_goals first | (exfalso; omega) | skip
    refine (numbers_c (l - 1) (hp.ext (by repeat (first | exact Ext.refl _ | assumption | refine Ext.al ?_ | refine Ext.dr ?_ | refine Ext.dn ?_ | (refine Ext.st ?_ ?_; · first | omega | (simp; done) | (simp; omega)) | refine Ext.trans ?_ (by assumption))))).mono ?_
    rintro e w1 ⟨A1, n1, c1, rfl, hs1, he1⟩
    have hE1 : Ext w w1 := Ext.trans (by repeat (first | exact Ext.refl _ | assumption | refine Ext.al ?_ | refine Ext.dr ?_ | refine Ext.dn ?_ | (refine Ext.st ?_ ?_; · first | omega | (simp; done) | (simp; omega)) | refine Ext.trans ?_ (by assumption))) he1
    have q0 : w1.cell? ⟨w.heap.size, 0, none⟩ = some (.slice A n c) := (he1.cell (p := ⟨w.heap.size, 0, none⟩) (by simp)).trans (by simp)
    clear he1
    go_wp2_with fail
    refine (numbers_c l (hp.ext hE1)).mono ?_
    rintro e w2 ⟨A2, n2, c2, rfl, hs2, he2⟩
    have hs1' := hs1.ext he2
    have hE2 : Ext w w2 := hE1.trans he2
    have hn1 := hs1.len
    have hn2 := hs2.len
    have hnn : n1 = n2 := by rw [← hn1, ← hn2]; exact H3.out
    subst hnn
    have hb1 := hs1'.lt
    have hb2 := hs2.lt
    have N2 := Lib.hid hn2
    rw [hn2] at hl2
    have hm := hs2.max
    have hle := hs2.le
    unfold maxLen at hm
    clear hs1 he2 q0 hE1 hn1 hn2
    go_wp2_with fail
    go_loopw [8, 21] (fun v i wr => ∃ k : Nat, k ≤ n1 ∧ i = .int .i64 k ∧ wr.ownsRow w2.heap.size 3 1 v (kidUp (lvl p (l - 1)) (lvl p l) cl k).length ((kidUp (lvl p (l - 1)) (lvl p l) cl k).map (Value.int .i64)) ∧ Below w2.heap.size w2 wr) (fun _ i _ => n1 - (intOf i).toNat)
    case atStart => exact ⟨0, Nat.zero_le _, rfl, World.ownsRow_nil _ _ _ _, Below.refl _ _⟩
    case round =>
      obtain ⟨k, hk, rfl, hown, hbel⟩ := hrel
      have hpl := kidUp_len (lvl p (l - 1)) (lvl p l) cl k
      by_cases hkm : k < n1
      · obtain ⟨b3, o3, x, rfl, hb3, hx, e3, -, -⟩ := (hb2.below hbel (fun _ h _ => h)).int hkm
        obtain ⟨b4, o4, y, rfl, hb4, hy, e4, -, -⟩ := (hb1.below hbel (fun _ h _ => h)).int hkm
        have hz2 := hbel.size
        by_cases hxc : x = cl
        · have hd : (x == cl) = true := by simpa using hxc
          have hcf : kidUp (lvl p (l - 1)) (lvl p l) cl (k + 1) = kidUp (lvl p (l - 1)) (lvl p l) cl k ++ [y] := by
            rw [kidUp, if_pos (by rw [hx.out, hxc]), hy.out]; rfl
          have HCF := Lib.hid hcf
          clear hcf hxc
          go_wp2_with (at_builtin; refine wpL_append1 tyInts rfl (.tmp 35) (.tmp 40) rfl rfl hown #[.int .i64 y] rfl rfl (by simp [Value.oneCell']) (by omega) hz2 ?_; intro g3 cap w3 hown3 hgr3 hat3 hlt3)
          all_goals first | (exfalso; omega) | skip
          go_roundw
          case rel => exact ⟨k + 1, by omega, by go_num, by rw [HCF.out]; simpa using hown3, below_own hbel hown hgr3 (Nat.le_refl _) hz2⟩
          case measure => simp [intOf]; omega
        · have hd : (x == cl) = false := by simpa using hxc
          have hcf : kidUp (lvl p (l - 1)) (lvl p l) cl (k + 1) = kidUp (lvl p (l - 1)) (lvl p l) cl k := by
            rw [kidUp, if_neg (by rw [hx.out]; simpa using hxc)]
          have HCF := Lib.hid hcf
          clear hcf
          go_wp2_with fail
          all_goals first | (exfalso; omega) | skip
          go_roundw
          case rel => exact ⟨k + 1, by omega, by go_num, by rw [HCF.out]; exact hown, hbel⟩
          case measure => simp [intOf]; omega
      · obtain rfl : k = n1 := by omega
        obtain ⟨v0, hv0⟩ := List.getElem?_of_mem H4.out
        have hv1 : v0 < k := by rw [← N2.out]; exact (List.getElem?_eq_some_iff.1 hv0).1
        obtain ⟨b4, o4, y, -, -, hy, -, -, -⟩ := hb1.int hv1
        have hy0 : y ∈ kidUp (lvl p (l - 1)) (lvl p l) cl k := (kid_mem k).2 ⟨v0, hv1, hv0, hy.out⟩
        have hpos : 0 < (kidUp (lvl p (l - 1)) (lvl p l) cl k).length := List.length_pos_of_mem hy0
        have hkm := fun x => kid_mem (low := lvl p (l - 1)) (row := lvl p l) (cl := cl) (x := x) k
        have hwf : ∀ x ∈ kidUp (lvl p (l - 1)) (lvl p l) cl k, (Lit.int .i64 x).wf = true := fun x hx => by
          obtain ⟨v, h1, h2, h3⟩ := (hkm x).1 hx
          obtain ⟨b5, o5, z, -, -, hz, -, z0, z1⟩ := hb1.int h1
          obtain rfl := Option.some.inj (hz.out.symm.trans h3)
          exact WalkArith.wf_i64 ⟨z0, z1⟩
        have HKM := Lib.hid hkm
        have HWF := Lib.hid hwf
        clear hkm hwf hy0 hy hv0
        obtain ⟨zs, hzs⟩ : ∃ zs, kidUp (lvl p (l - 1)) (lvl p l) cl k = zs := ⟨_, rfl⟩
        rw [hzs] at hown hpl hpos HKM HWF
        obtain ⟨g, cap, rfl, hgb, hgl, hnc, hcm, hH⟩ := holds_of_own hown hpos rfl
        clear hzs hown
        have hz2 := hbel.size
        go_wp2_with fail
        refine (sortInt_c g 0 cap zs wr hH hgl (by omega)).mono ?_
        rintro e w5 ⟨rfl, nn, os, hw5⟩
        have hbs : Below w2.heap.size wr w5 := below_sorted hgb hz2 hw5
        have hH5 : Holds (Value.int .i64) w5 g 0 (zs.mergeSort fun x y => decide (x ≤ y)).toArray := by
          rw [hw5]
          exact holds_grow _ _ _ _ _ _ (by simpa using hgl) (holds_putRow _ _ _ _ zs.toArray _ (fun j hj => hH j hj) (by simp))
        have hlm : (zs.mergeSort fun x y => decide (x ≤ y)).length = zs.length := List.length_mergeSort _
        have hcall := compactInt_c g 0 cap _ w5 hH5 (by rw [hlm]; omega) (by rw [hlm]; omega)
        have hmem : ∀ x, x ∈ Lib.compact (zs.mergeSort fun x y => decide (x ≤ y)) ↔ x ∈ zs := fun x => by rw [compact_mem, List.mem_mergeSort]
        have hcl : (Lib.compact (zs.mergeSort fun x y => decide (x ≤ y))).length ≤ zs.length := by
          rw [← hlm]
          unfold Lib.compact Lib.compactUpTo
          rw [List.length_map]
          exact Nat.le_trans (List.length_filter_le _ _) (by simp)
        generalize (zs.mergeSort fun x y => decide (x ≤ y)) = ss at hH5 hlm hcall hmem hcl
        rw [hlm] at hcall
        have HCALL := Lib.hid hcall
        clear hcall hw5
        go_wp2_with fail
        refine HCALL.out.mono ?_
        rintro e w6 ⟨rfl, q, hw6⟩
        have hb6 : Below w2.heap.size w5 w6 := by
          rw [hw6]
          exact Below.trans (⟨rfl, rfl, rfl, Nat.le_refl _, fun _ _ => rfl⟩ : Below w2.heap.size w5 (Sort.ahead w5 q)) (below_put hgb)
        have hH6 : Holds (Value.int .i64) w6 g 0 (Lib.compact ss ++ List.replicate (zs.length - (Lib.compact ss).length) 0).toArray := by
          rw [hw6]
          exact holds_putRow _ _ _ _ ss.toArray _ (fun j hj => hH5 j hj) (by simp; omega)
        have hg6 : g < w6.heap.size := Nat.lt_of_lt_of_le hgl (Nat.le_trans hbs.size hb6.size)
        have hn2 := N2.out
        have hE6 : Ext w w6 := Below.trans hE2 (((hbel.trans hbs).trans hb6).mono hE2.size)
        have hsl := sl_of_holds (F := fun b => w.heap.size ≤ b) hH6 (Nat.le_trans hE2.size hgb) hg6 (Nat.le_trans hcl hnc) hcm (fun x hx => HWF.out x ((hmem x).1 hx))
        have hks : ∀ x, x ∈ Lib.compact ss ↔ 2 ≤ l ∧ ∃ v : Nat, (lvl p l)[v]? = some cl ∧ (lvl p (l - 1))[v]? = some x := fun x => by
          rw [hmem, HKM.out]
          constructor
          · rintro ⟨v, -, h1, h2⟩; exact ⟨by omega, v, h1, h2⟩
          · rintro ⟨-, v, h1, h2⟩; exact ⟨v, by rw [← hn2]; exact (List.getElem?_eq_some_iff.1 h1).1, h1, h2⟩
        have HKS := Lib.hid hks
        clear hks hw6
        go_wp2_with fail
        go_ret
        exact ⟨_, _, _, _, rfl, hsl, HKS.out, by rw [hn2]; omega, hE6⟩
end
end Go.Proofs.YtlaobpnbnfoadaaGreatDoor
