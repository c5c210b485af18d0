/-
  Contracts of strings.Builder's writes over this seat's program, of strconv.Itoa at a digit, and of part.Text over single digits.
-/
import Derived.Test.YtlaobpnbnfoadaaGreatDoorQ20
import Derived.Shelf.Strings.Builder1
import Derived.Shelf.Strconv.Itoa3
namespace Go.Proofs
def Tryz.laysBString_ren : Go.Shelf.Ren := ⟨fun | 169 => 61 | n => n, fun | 70 => 99 | 9 => 9 | 0 => 0 | 72 => 102 | 37 => 100 | 127 => 132 | 3 => 3 | 5 => 5 | n => n, fun | n => n⟩
theorem Tryz.laysBString : Go.Proofs.Lays.n169 Tryz.prog Tryz.laysBString_ren := {
  mixed := by kernel_rfl
  f169 := Tryz.func61.trans (congrArg some (by kernel_rfl))
  t0 := Tryz.underlying0
  a0 := Tryz.isAgg0
  z0 := Tryz.sizeOf0
  v0 := Tryz.zeroValue0
  t3 := Tryz.underlying3
  a3 := Tryz.isAgg3
  z3 := Tryz.sizeOf3
  v3 := Tryz.zeroValue3
  t9 := Tryz.underlying9
  a9 := Tryz.isAgg9
  z9 := Tryz.sizeOf9
  v9 := Tryz.zeroValue9
  t37 := Tryz.underlying100
  a37 := Tryz.isAgg100
  z37 := Tryz.sizeOf100
  v37 := Tryz.zeroValue100
  t70 := Tryz.underlying99
  a70 := Tryz.isAgg99
  z70 := Tryz.sizeOf99
  v70 := Tryz.zeroValue99
  t72 := Tryz.underlying102
  a72 := Tryz.isAgg102
  z72 := Tryz.sizeOf102
  v72 := Tryz.zeroValue102
  t127 := Tryz.underlying132
  a127 := Tryz.isAgg132
  z127 := Tryz.sizeOf132
  v127 := Tryz.zeroValue132 }
def Tryz.laysItoa_ren : Go.Shelf.Ren := ⟨fun | 243 => 81 | 246 => 98 | 283 => 110 | 284 => 111 | 285 => 112 | 286 => 113 | 129 => 94 | 317 => 118 | 318 => 119 | 319 => 120 | 320 => 121 | 337 => 122 | 338 => 123 | n => n, fun | 3 => 3 | 9 => 9 | 2 => 2 | 4 => 4 | 171 => 173 | 0 => 0 | 53 => 55 | 37 => 100 | 5 => 5 | 173 => 175 | 212 => 183 | 51 => 159 | 20 => 20 | 213 => 184 | 46 => 125 | 232 => 189 | 233 => 190 | n => n, fun | 17 => 2 | 18 => 5 | 19 => 6 | n => n⟩
theorem Tryz.laysItoa : Go.Proofs.Lays.n243 Tryz.prog Tryz.laysItoa_ren := {
  mixed := by kernel_rfl
  f129 := Tryz.func94.trans (congrArg some (by kernel_rfl))
  f243 := Tryz.func81.trans (congrArg some (by kernel_rfl))
  f246 := Tryz.func98.trans (congrArg some (by kernel_rfl))
  f283 := Tryz.func110.trans (congrArg some (by kernel_rfl))
  f284 := Tryz.func111.trans (congrArg some (by kernel_rfl))
  f285 := Tryz.func112.trans (congrArg some (by kernel_rfl))
  f286 := Tryz.func113.trans (congrArg some (by kernel_rfl))
  f317 := Tryz.func118.trans (congrArg some (by kernel_rfl))
  f318 := Tryz.func119.trans (congrArg some (by kernel_rfl))
  f319 := Tryz.func120.trans (congrArg some (by kernel_rfl))
  f320 := Tryz.func121.trans (congrArg some (by kernel_rfl))
  f337 := Tryz.func122.trans (congrArg some (by kernel_rfl))
  f338 := Tryz.func123.trans (congrArg some (by kernel_rfl))
  t0 := Tryz.underlying0
  a0 := Tryz.isAgg0
  z0 := Tryz.sizeOf0
  v0 := Tryz.zeroValue0
  t2 := Tryz.underlying2
  a2 := Tryz.isAgg2
  z2 := Tryz.sizeOf2
  v2 := Tryz.zeroValue2
  t3 := Tryz.underlying3
  a3 := Tryz.isAgg3
  z3 := Tryz.sizeOf3
  v3 := Tryz.zeroValue3
  t4 := Tryz.underlying4
  a4 := Tryz.isAgg4
  z4 := Tryz.sizeOf4
  v4 := Tryz.zeroValue4
  t5 := Tryz.underlying5
  a5 := Tryz.isAgg5
  z5 := Tryz.sizeOf5
  v5 := Tryz.zeroValue5
  t9 := Tryz.underlying9
  a9 := Tryz.isAgg9
  z9 := Tryz.sizeOf9
  v9 := Tryz.zeroValue9
  t20 := Tryz.underlying20
  a20 := Tryz.isAgg20
  z20 := Tryz.sizeOf20
  v20 := Tryz.zeroValue20
  t37 := Tryz.underlying100
  a37 := Tryz.isAgg100
  z37 := Tryz.sizeOf100
  v37 := Tryz.zeroValue100
  t46 := Tryz.underlying125
  a46 := Tryz.isAgg125
  z46 := Tryz.sizeOf125
  v46 := Tryz.zeroValue125
  t51 := Tryz.underlying159
  a51 := Tryz.isAgg159
  z51 := Tryz.sizeOf159
  v51 := Tryz.zeroValue159
  t53 := Tryz.underlying55
  a53 := Tryz.isAgg55
  z53 := Tryz.sizeOf55
  v53 := Tryz.zeroValue55
  t171 := Tryz.underlying173
  a171 := Tryz.isAgg173
  z171 := Tryz.sizeOf173
  v171 := Tryz.zeroValue173
  t173 := Tryz.underlying175
  a173 := Tryz.isAgg175
  z173 := Tryz.sizeOf175
  v173 := Tryz.zeroValue175
  t212 := Tryz.underlying183
  a212 := Tryz.isAgg183
  z212 := Tryz.sizeOf183
  v212 := Tryz.zeroValue183
  t213 := Tryz.underlying184
  a213 := Tryz.isAgg184
  z213 := Tryz.sizeOf184
  t232 := Tryz.underlying189
  a232 := Tryz.isAgg189
  z232 := Tryz.sizeOf189
  v232 := Tryz.zeroValue189
  t233 := Tryz.underlying190
  a233 := Tryz.isAgg190
  z233 := Tryz.sizeOf190
  v233 := Tryz.zeroValue190
  g17 := by kernel_rfl
  g18 := by kernel_rfl
  g19 := by kernel_rfl }
end Go.Proofs
namespace Go.Proofs.YtlaobpnbnfoadaaGreatDoor
set_option linter.unusedVariables false
set_option linter.unusedSimpArgs false
set_option linter.unusedSectionVars false
set_option linter.unnecessarySimpa false
open Go Go.RowKit Go.Shelf

theorem sizeSB : (Tryz.prog.info? 102).map (·.size) = some 2 := by kernel_rfl
theorem liesSB : liesAt Tryz.prog Tryz.prog.depth 102 (2 / Tryz.prog.cellsOf 102) 0 102 1 = true := by kernel_rfl
theorem infoU8 : (Tryz.prog.info? 5).map (fun i => (i.zero, i.size, i.bytes)) = some (some (.int .u8 0), 1, 1) := by kernel_rfl
theorem neSB : 102 ≠ 5 := by decide
theorem extraSB : Builder.Extra Tryz.prog Tryz.laysBString_ren where
  sizeBuilder := by kernel_rfl
  liesBuilder := by kernel_rfl
  t5 := Tryz.underlying5
  a5 := run_isAgg_plain Tryz.underlying5 rfl
  z5 := fun w => by kernel_rfl
  v5 := fun w => by kernel_rfl
  infoByte := by kernel_rfl
  cellsByte := by kernel_rfl
  sizeByte := by kernel_rfl
  neB5 := by decide
section
variable {B b : Nat} {bs : List Value} {w : World}
set_option maxHeartbeats 1000000 in
set_option maxRecDepth 100000 in
theorem copyUsed_c (h0 : w.cell? ⟨b, 0, none⟩ = some (.pointer (some ⟨b, 0, none⟩))) : Calls Tryz.prog 80 #[.pointer (some ⟨b, 0, none⟩)] w fun e w' => e = .returned (.tuple #[]) ∧ w' = w := by
  obtain ⟨j, hj, _⟩ := Option.map_eq_some_iff.1 sizeSB
  go_enter Tryz.func80, Tryz.ntmps80
  go_wp2
  rw [Lib.run_neq_ptr_same w _ Tryz.underlying99 hj]
  go_wp2
  go_end0
  exact ⟨rfl, rfl⟩
set_option maxHeartbeats 1000000 in
set_option maxRecDepth 100000 in
theorem copyFresh_c (h0 : w.cell? ⟨b, 0, none⟩ = some (.pointer none)) (hsh : w.shape? b = some (102, 2)) (hfz : w.frozen? ⟨b, 0, none⟩ = false) :
    Calls Tryz.prog 80 #[.pointer (some ⟨b, 0, none⟩)] w fun e w' => e = .returned (.tuple #[]) ∧ w' = w.setCell ⟨b, 0, none⟩ (.pointer (some ⟨b, 0, none⟩)) := by
  obtain ⟨j, hj, hjs⟩ := Option.map_eq_some_iff.1 sizeSB
  go_enter Tryz.func80, Tryz.ntmps80
  go_wp2
  rw [Lib.run_to_unsafe w ⟨b, 0, none⟩ Tryz.underlying99 Tryz.underlying110 hj (by rw [hjs]; decide) hsh (Nat.zero_lt_succ 1)]
  simp only [Result.andThen]
  rw [Oper.upon_value]
  go_wp2
  rw [run_callFunc_extern Tryz.func97 (by kernel_rfl) (by kernel_rfl) (by kernel_rfl) (e := Extern.AbiNoEscape.same) (by kernel_rfl)]
  rw [Lib.run_noEscape]
  simp only [Result.andThen]
  rw [Oper.upon_value]
  go_wp2
  rw [Lib.run_from_unsafe w ⟨b, 0, none⟩ Tryz.underlying110 Tryz.underlying99 hj hsh liesSB]
  simp only [Result.andThen]
  rw [Oper.upon_value]
  go_wp2
  go_end0
  exact ⟨rfl, rfl⟩
theorem copyCheck_c (h : Lib.IsBuilder 102 5 B b bs w) :
    Calls Tryz.prog 80 #[.pointer (some ⟨b, 0, none⟩)] w fun e w' => e = .returned (.tuple #[]) ∧ (Lib.BuilderAt 102 5 B b (.pointer (some ⟨b, 0, none⟩)) bs w' ∧ Below B w w') := by
  rcases h with h | h
  · refine (copyFresh_c h.cell0 h.shape h.frozen0).mono ?_
    rintro e w' ⟨rfl, rfl⟩
    exact ⟨rfl, h.used _, (Below.refl B w).setCell (p := ⟨b, 0, none⟩) h.1 _⟩
  · refine (copyUsed_c h.cell0).mono ?_
    rintro e w' ⟨rfl, rfl⟩
    exact ⟨rfl, h, Below.refl B _⟩
set_option maxHeartbeats 2000000 in
set_option maxRecDepth 100000 in
theorem writeByte_c (c : Int) (h : Lib.IsBuilder 102 5 B b bs w) (hlen : bs.length + 1 ≤ 140737488355328) (hBw : B ≤ w.heap.size) :
    Calls Tryz.prog 58 #[.pointer (some ⟨b, 0, none⟩), .int .u8 c] w fun e w' => e = .returned .nilIface ∧ (Lib.BuilderAt 102 5 B b (.pointer (some ⟨b, 0, none⟩)) (bs ++ [.int .u8 c]) w' ∧ Below B w w') := by
  obtain ⟨i0, hi, hz0, hz1, hz2⟩ := info_parts infoU8
  have HC := Lib.hid (copyCheck_c h)
  go_enter Tryz.func58, Tryz.ntmps58
  go_wp2_with fail
  refine HC.out.mono ?_
  rintro e w1 ⟨rfl, h1, hb1⟩
  obtain ⟨hB, v, hbk, hown, hne⟩ := h1
  have c0 : w1.cell? ⟨b, 0, none⟩ = some (.pointer (some ⟨b, 0, none⟩)) := by rw [Lib.cell_of_heap hbk]; rfl
  have c1 : w1.cell? ⟨b, 1, none⟩ = some v := by rw [Lib.cell_of_heap hbk]; rfl
  have hlt : b < w1.heap.size := by
    rcases Nat.lt_or_ge b w1.heap.size with h' | h'
    · exact h'
    · simp [Array.getElem?_eq_none h'] at hbk
  go_wp2_with (at_builtin; refine wpList_append_own _ rfl _ _ 100 rfl B 5 i0 (.int .u8 0) 1 1 Tryz.underlying100 hi hz0 hz1 hz2 rfl (by decide) _ _ _ rfl (hown.alloc _) ⟨w1.heap.size, 0, none⟩ 1 1 [.int .u8 c] rfl rfl ?c1 ?c2 ?c3 ?c4 ?c5 ?_)
  case c1 =>
    intro j u hj
    match j, hj with
    | 0, hj => simp at hj; subst hj; simp [Addr.add]
  case c2 => intro u hu; simp at hu; subst hu; rfl
  case c3 => unfold maxLen; omega
  case c4 => omega
  case c5 => have := hb1.size; simp; omega
  intro v' w2 hown' hgrow _
  have hb2 : w2.heap[b]? = some (.cells #[.pointer (some ⟨b, 0, none⟩), v] 102 (0, 0)) := by
    rw [hgrow.block b (by simp; omega) (fun e => hne e.symm), Lib.alloc_old w1 _ b hlt]
    exact hbk
  have d0 : w2.cell? ⟨b, 0, none⟩ = some (.pointer (some ⟨b, 0, none⟩)) := by rw [Lib.cell_of_heap hb2]; rfl
  have d1 : w2.cell? ⟨b, 1, none⟩ = some v := by rw [Lib.cell_of_heap hb2]; rfl
  have f1 : w2.frozen? ⟨b, 1, none⟩ = false := Lib.frozen_of_heap hb2 1
  obtain ⟨g, cap, rfl⟩ : ∃ g cap, v' = .slice (some ⟨g, 0, none⟩) (bs.length + 1) cap := by
    rcases hown'.2 with ⟨_, h0⟩ | ⟨g, cap, cur, hv, _⟩
    · omega
    · exact ⟨g, cap, hv⟩
  go_wp2
  go_ret
  refine ⟨rfl, ?_, ?_⟩
  · exact Lib.BuilderAt.put (T := 102) (e := 5) hB hb2 (bs' := bs ++ [.int .u8 c]) (by simpa using hown') neSB
  · exact ((hb1.alloc (by have := hb1.size; omega) _).grown hgrow (by have := hb1.size; simp; omega) (fun k hk => (hown.lt k hk).1)).setCell (p := ⟨b, 1, none⟩) hB _
set_option maxHeartbeats 2000000 in
set_option maxRecDepth 100000 in
theorem writeString_c (s : ByteArray) (h : Lib.IsBuilder 102 5 B b bs w) (hlen : bs.length + s.size ≤ 140737488355328) (hBw : B ≤ w.heap.size) :
    Calls Tryz.prog 59 #[.pointer (some ⟨b, 0, none⟩), .string s] w fun e w' => e = .returned (.tuple #[.int .i64 s.size, .nilIface]) ∧ (Lib.BuilderAt 102 5 B b (.pointer (some ⟨b, 0, none⟩)) (bs ++ Lib.strCells s) w' ∧ Below B w w') := by
  obtain ⟨i0, hi, hz0, hz1, hz2⟩ := info_parts infoU8
  have HC := Lib.hid (copyCheck_c h)
  go_enter Tryz.func59, Tryz.ntmps59
  go_wp2_with fail
  refine HC.out.mono ?_
  rintro e w1 ⟨rfl, h1, hb1⟩
  obtain ⟨hB, v, hbk, hown, hne⟩ := h1
  have c0 : w1.cell? ⟨b, 0, none⟩ = some (.pointer (some ⟨b, 0, none⟩)) := by rw [Lib.cell_of_heap hbk]; rfl
  have c1 : w1.cell? ⟨b, 1, none⟩ = some v := by rw [Lib.cell_of_heap hbk]; rfl
  go_wp2_with (at_builtin; refine Lib.wpList_append_own_string _ rfl _ _ 100 9 rfl B 5 i0 Tryz.underlying100 Tryz.underlying9 hi hz0 hz1 hz2 _ _ _ rfl hown s rfl ?c3 ?c4 ?c5 ?_)
  case c3 => unfold maxLen; omega
  case c4 => omega
  case c5 => have := hb1.size; omega
  intro v' w2 hown' hgrow _
  have hlt : b < w1.heap.size := by
    rcases Nat.lt_or_ge b w1.heap.size with h' | h'
    · exact h'
    · simp [Array.getElem?_eq_none h'] at hbk
  have hb2 : w2.heap[b]? = some (.cells #[.pointer (some ⟨b, 0, none⟩), v] 102 (0, 0)) := by
    rw [hgrow.block b hlt (fun e => hne e.symm)]
    exact hbk
  have d0 : w2.cell? ⟨b, 0, none⟩ = some (.pointer (some ⟨b, 0, none⟩)) := by rw [Lib.cell_of_heap hb2]; rfl
  have d1 : w2.cell? ⟨b, 1, none⟩ = some v := by rw [Lib.cell_of_heap hb2]; rfl
  have f1 : w2.frozen? ⟨b, 1, none⟩ = false := Lib.frozen_of_heap hb2 1
  obtain ⟨ao, n', cap, rfl⟩ : ∃ ao n' cap, v' = .slice ao n' cap := by
    rcases hown'.2 with ⟨hv, _⟩ | ⟨g, cap, cur, hv, _⟩
    · exact ⟨_, _, _, hv⟩
    · exact ⟨_, _, _, hv⟩
  go_wp2
  go_ret2
  refine ⟨rfl, ?_, ?_⟩
  · exact Lib.BuilderAt.put (T := 102) (e := 5) hB hb2 (bs' := bs ++ Lib.strCells s) (by simpa [Lib.strCells_length] using hown') neSB
  · exact (hb1.grown hgrow (by have := hb1.size; omega) (fun k hk => (hown.lt k hk).1)).setCell (p := ⟨b, 1, none⟩) hB _
theorem builderString_c (l : List UInt8) (h : Lib.IsBuilder 102 5 B b (Lib.byteCells l) w) (hBw : B ≤ w.heap.size) :
    Calls Tryz.prog 61 #[.pointer (some ⟨b, 0, none⟩)] w fun e w' => e = .returned (.string ⟨l.toArray⟩) ∧ Below B w w' :=
  Any.Builder_String_any Tryz.laysBString extraSB B b l w h hBw
theorem itoa_c {i : Nat} {d : UInt8} (hd : Lib.decDigits i = [d]) (hi : i < 100) : Calls Tryz.prog 60 #[.int .i64 i] w fun e w' => e = .returned (.string ⟨#[d]⟩) ∧ w' = w := by
  have H : Hid (Calls Tryz.prog 81 #[.int .i64 i] w fun e w' => e = .returned (.string ⟨#[d]⟩) ∧ w' = w) := Lib.hid ((Any.internal_strconv_Itoa_small Tryz.laysItoa i hi w).mono fun e w' ⟨h1, h2⟩ => ⟨by rw [h1, hd], h2⟩)
  go_enter Tryz.func60, Tryz.ntmps60
  go_wp2_with fail
  refine H.out.mono ?_
  rintro e w1 ⟨rfl, rfl⟩
  go_wp2_with fail
  go_ret
  exact ⟨rfl, rfl⟩
end
/-- The text of so many numbers of a row, of so many rows. -/
def rowB (row : List Int) : Nat → List UInt8
  | 0 => []
  | k + 1 => rowB row k ++ (if 0 < k then [44] else []) ++ Lib.decDigits ((row[k]?).getD 0).toNat
def partB (p : List (List Int)) : Nat → List UInt8
  | 0 => []
  | i + 1 => partB p i ++ (if 0 < i then [47] else []) ++ rowB ((p[i]?).getD []) ((p[i]?).getD []).length
theorem dec_one {x : Int} (h : 0 ≤ x ∧ x < 10) : ∃ d, Lib.decDigits x.toNat = [d] := by
  refine ⟨UInt8.ofNat (48 + x.toNat), ?_⟩
  unfold Lib.decDigits
  rw [dif_pos (by omega)]
theorem rowB_len {row : List Int} (h : ∀ x ∈ row, 0 ≤ x ∧ x < 10) : ∀ k, k ≤ row.length → (rowB row k).length ≤ 2 * k
  | 0, _ => by simp [rowB]
  | k + 1, hk => by
    have ih := rowB_len h k (by omega)
    have hx : row[k]? = some row[k] := List.getElem?_eq_getElem (by omega)
    obtain ⟨d, hd⟩ := dec_one (h row[k] (List.getElem_mem (by omega)))
    rw [rowB, hx, Option.getD_some, hd]
    split <;> simp <;> omega
theorem partB_len {p : List (List Int)} (h : ∀ r ∈ p, ∀ x ∈ r, 0 ≤ x ∧ x < 10) (hr : ∀ r ∈ p, r.length ≤ 1000) : ∀ i, i ≤ p.length → (partB p i).length ≤ 2001 * i
  | 0, _ => by simp [partB]
  | i + 1, hi => by
    have ih := partB_len h hr i (by omega)
    have hx : p[i]? = some p[i] := List.getElem?_eq_getElem (by omega)
    have hm := List.getElem_mem (l := p) (n := i) (by omega)
    have h1 := rowB_len (h _ hm) p[i].length (Nat.le_refl _)
    have h2 := hr _ hm
    rw [partB, hx, Option.getD_some]
    split <;> simp <;> omega
section
variable {F : Nat → Prop} {A : Option Addr} {n c : Nat} {p : List (List Int)} {w : World}
set_option maxRecDepth 100000 in
set_option maxHeartbeats 16000000 in
theorem text_c (hp : Sl rRows F w A n c p) (hd : ∀ r ∈ p, ∀ x ∈ r, 0 ≤ x ∧ x < 10) (hn : n ≤ 100) (hr : ∀ r ∈ p, r.length ≤ 1000) :
    Calls Tryz.prog 33 #[.agg #[.slice A n c]] w fun e w' => e = .returned (.string ⟨(partB p n).toArray⟩) ∧ Ext w w' := by
  have HPL := Lib.hid hp.len
  have hpm := hp.max
  have hple := hp.le
  unfold maxLen at hpm
  have HP := Lib.hid hp.lt
  have HD := Lib.hid hd
  have HR := Lib.hid hr
  clear hp hd hr
  go_enter Tryz.func33, Tryz.ntmps33
  go_wp2_with fail
  obtain ⟨wo, hwo⟩ : ∃ wo : World, wo = (w.alloc (.cells #[.slice A n c] 32)).alloc (.cells #[.pointer none, .slice none 0 0] 102) := ⟨_, rfl⟩
  have hE : Ext w wo := by rw [hwo]; exact (by repeat (first | exact Ext.refl _ | assumption | refine Ext.al ?_ | refine Ext.dr ?_ | refine Ext.dn ?_ | (refine Ext.st ?_ ?_; · first | omega | (simp; done) | (simp; omega)) | refine Ext.trans ?_ (by assumption)))
  have hz : wo.heap.size = w.heap.size + 1 + 1 := by rw [hwo]; simp
  have hB : Blk wo (w.heap.size + 1) 102 #[.pointer none, .slice none 0 0] := by rw [hwo]; exact (by repeat (first | assumption | (refine Blk.new_at ?_; simp; done) | refine Blk.alloc ?_ _ | refine Blk.drewN ?_ _ | (refine Blk.far ?_ ?_ _; rotate_left; · first | omega | (simp; done) | (simp; omega))))
  rw [← hwo]
  clear hwo
  obtain ⟨b, hb⟩ : ∃ b, w.heap.size + 1 = b := ⟨_, rfl⟩
  rw [hb] at hz hB ⊢
  have hbw : w.heap.size < b := by omega
  have hbo : b < wo.heap.size := by omega
  have hI : Lib.IsBuilder 102 5 b b (Lib.byteCells (partB p 0)) wo := .inl ⟨Nat.le_refl _, .slice none 0 0, hB, World.ownsRow_nil _ _ _ _, by simp [Value.ownBlock]⟩
  clear hb hz hB
  go_loopw [11] (fun iv wr => ∃ i : Nat, i ≤ n ∧ iv = .int .i64 i ∧ Lib.IsBuilder 102 5 b b (Lib.byteCells (partB p i)) wr ∧ Below b wo wr) (fun iv _ => n - (intOf iv).toNat)
  case atStart => exact ⟨0, Nat.zero_le _, rfl, hI, Below.refl _ _⟩
  case round =>
    clear hI
    obtain ⟨i, hi, rfl, hI, he⟩ := hrel
    obtain ⟨wz, rfl⟩ : ∃ wz : World, wz = wr := ⟨_, rfl⟩
    have hsz := he.size
    by_cases hin : i < n
    · have hEz : Below w.heap.size w wz := Below.trans hE (he.mono (Nat.le_of_lt hbw))
      obtain ⟨b1, o1, A1, n1, c1, row, rfl, hb1, hx, e1, hr⟩ := (HP.out.below (B := w.heap.size) hEz (fun _ h _ => h)).row hin
      have hm := List.mem_of_getElem? hx.out
      have hrl := hr.len
      have hr1000 := HR.out row hm
      have hrm := hr.max
      have hrle := hr.le
      unfold maxLen at hrm
      have hpl := partB_len HD.out HR.out i (by rw [HPL.out]; omega)
      have HDR := Lib.hid (HD.out row hm)
      have HPS : Hid (partB p (i + 1) = (partB p i ++ (if 0 < i then [47] else [])) ++ rowB row row.length) := Lib.hid (by rw [partB, hx.out, Option.getD_some])
      have HRW := Lib.hid hr
      have HRL := Lib.hid hrl
      rw [hrl] at hr1000
      clear hx hm hr hrl
      go_upto_if 17 with fail
      go_cut [] (fun wc => Lib.IsBuilder 102 5 b b (Lib.byteCells (partB p i ++ (if 0 < i then [47] else []))) wc ∧ Below b wz wc)
      case first =>
        by_cases h0 : 0 < i
        · have q0 : decide (0 < (i : Int)) = true := decide_eq_true (by omega)
          have HW := Lib.hid (writeByte_c 47 hI (by rw [Lib.byteCells_length]; omega) (by omega))
          clear hI
          go_wp2_with fail
          all_goals first | (exfalso; omega) | skip
          refine HW.out.mono ?_
          rintro e w1 ⟨rfl, h1, h2⟩
          go_wp2_with fail
          go_meet
          exact ⟨.inr (by rw [if_pos h0, Lib.byteCells_append]; exact h1), h2⟩
        · have q0 : decide (0 < (i : Int)) = false := decide_eq_false (by omega)
          go_wp2_with fail
          all_goals first | (exfalso; omega) | skip
          go_meet
          exact ⟨by rw [if_neg h0, List.append_nil]; exact hI, Below.refl _ _⟩
      case rest =>
        obtain ⟨hI1, hx1⟩ := hcut
        obtain ⟨w2, hw2⟩ : ∃ w2 : World, w2 = wc := ⟨_, rfl⟩
        rw [← hw2] at hI1 hx1 ⊢
        clear hw2 hI
        have hsz2 := hx1.size
        have hplz : (partB p i ++ (if 0 < i then [47] else [])).length ≤ 2001 * i + 1 := by
          rw [List.length_append]
          split <;> simp <;> omega
        obtain ⟨pre, hpre⟩ : ∃ pre, partB p i ++ (if 0 < i then [47] else []) = pre := ⟨_, rfl⟩
        rw [hpre] at hI1 hplz HPS
        clear hpre hpl
        go_wp2_with fail
        go_loopw [21] (fun kv wq => ∃ k : Nat, k ≤ n1 ∧ kv = .int .i64 k ∧ Lib.IsBuilder 102 5 b b (Lib.byteCells (pre ++ rowB row k)) wq ∧ Below b wz wq) (fun kv _ => n1 - (intOf kv).toNat)
        case atStart => exact ⟨0, Nat.zero_le _, rfl, by simpa [rowB] using hI1, hx1⟩
        case round =>
          clear hI1 hx1 hsz2
          obtain ⟨k, hk, rfl, hI, hq⟩ := hrel
          obtain ⟨wq, rfl⟩ : ∃ wq : World, wq = wr := ⟨_, rfl⟩
          have hszq := hq.size
          by_cases hkn : k < n1
          · obtain ⟨b2, o2, x, rfl, hb2, hxx, e2, -, -⟩ := (HRW.out.below hq (fun _ h _ => Nat.lt_trans h hbw)).int hkn
            have hxd := HDR.out x (List.mem_of_getElem? hxx.out)
            obtain ⟨d, hdd⟩ := dec_one hxd
            obtain ⟨xx, rfl⟩ := Int.eq_ofNat_of_zero_le hxd.1
            rw [Int.toNat_natCast] at hdd
            have hrk := rowB_len HDR.out k (by rw [HRL.out]; omega)
            have HRS : Hid (rowB row (k + 1) = (rowB row k ++ (if 0 < k then [44] else [])) ++ [d]) := Lib.hid (by rw [rowB, hxx.out, Option.getD_some, Int.toNat_natCast, hdd])
            have HDD := Lib.hid hdd
            have hx100 : xx < 100 := by omega
            clear hxx hxd hdd
            go_upto_if 27 with fail
            go_cut [] (fun wc => Lib.IsBuilder 102 5 b b (Lib.byteCells (pre ++ (rowB row k ++ (if 0 < k then [44] else [])))) wc ∧ Below b wz wc)
            case first =>
              by_cases h0 : 0 < k
              · have q0 : decide (0 < (k : Int)) = true := decide_eq_true (by omega)
                have HW := Lib.hid (writeByte_c 44 hI (by rw [Lib.byteCells_length, List.length_append]; omega) (by omega))
                clear hI
                go_wp2_with fail
                all_goals first | (exfalso; omega) | skip
                refine HW.out.mono ?_
                rintro e w1 ⟨rfl, h1, h2⟩
                go_wp2_with fail
                go_meet
                exact ⟨.inr (by rw [if_pos h0, ← List.append_assoc, Lib.byteCells_append]; exact h1), hq.trans h2⟩
              · have q0 : decide (0 < (k : Int)) = false := decide_eq_false (by omega)
                go_wp2_with fail
                all_goals first | (exfalso; omega) | skip
                go_meet
                exact ⟨by rw [if_neg h0, List.append_nil]; exact hI, hq⟩
            case rest =>
              obtain ⟨hI1, hx1⟩ := hcut
              obtain ⟨w2, hw2⟩ : ∃ w2 : World, w2 = wc := ⟨_, rfl⟩
              rw [← hw2] at hI1 hx1 ⊢
              clear hw2 hI hq e2
              have hsz2 := hx1.size
              have hl2 : (pre ++ (rowB row k ++ (if 0 < k then [44] else []))).length ≤ 2001 * i + 1 + 2 * k + 1 := by
                rw [List.length_append, List.length_append]
                split <;> simp <;> omega
              have HW := Lib.hid (writeString_c ⟨#[d]⟩ hI1 (by rw [Lib.byteCells_length]; show _ + 1 ≤ _; omega) (by omega))
              clear hI1 hl2
              go_wp2_with fail
              refine (itoa_c HDD.out hx100).mono ?_
              rintro e w3 ⟨rfl, rfl⟩
              go_wp2_with fail
              refine HW.out.mono ?_
              rintro e w4 ⟨rfl, h1, h2⟩
              have hI4 : Lib.IsBuilder 102 5 b b (Lib.byteCells (pre ++ rowB row (k + 1))) w4 := .inr (by
                rw [HRS.out, ← List.append_assoc, Lib.byteCells_append]
                exact h1)
              have hx4 := hx1.trans h2
              clear h1 h2 hx1 HW
              go_wp2_with fail
              all_goals first | (exfalso; omega) | skip
              go_roundw
              case rel => exact ⟨k + 1, by omega, by go_num, hI4, hx4⟩
              case measure => simp [intOf]; omega
          · obtain rfl : k = n1 := by omega
            have hI4 : Lib.IsBuilder 102 5 b b (Lib.byteCells (partB p (i + 1))) wq := by
              rw [HPS.out, HRL.out]
              exact hI
            have hx4 := he.trans hq
            clear hI hq he
            go_wp2_with fail
            all_goals first | (exfalso; omega) | skip
            go_roundw
            case rel => exact ⟨i + 1, by omega, by go_num, hI4, hx4⟩
            case measure => simp [intOf]; omega
    · obtain rfl : i = n := by omega
      have hEz : Ext w wz := Below.trans hE (he.mono (Nat.le_of_lt hbw))
      have HS := Lib.hid (builderString_c _ hI (by omega))
      clear hI he
      go_wp2_with fail
      all_goals first | (exfalso; omega) | skip
      refine HS.out.mono ?_
      rintro e w1 ⟨rfl, h1⟩
      have hE9 : Ext w w1 := Below.trans hEz (h1.mono (Nat.le_of_lt hbw))
      go_wp2_with fail
      go_ret
      exact ⟨rfl, hE9⟩
end
end Go.Proofs.YtlaobpnbnfoadaaGreatDoor
