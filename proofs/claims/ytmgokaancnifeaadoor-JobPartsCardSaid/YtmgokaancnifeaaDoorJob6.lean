/-
  Contract of law24.known: it returns true. Condition: the variable of package errors holds the handle of the type error.
-/
import Derived.Test.YtmgokaancnifeaaDoorJob5
import Derived.Test.YtmgokaancnifeaaDoorSame
namespace Go.Proofs.YtmgokaancnifeaaDoor
set_option linter.unusedVariables false
set_option linter.unusedSimpArgs false
set_option linter.unusedSectionVars false
set_option linter.unnecessarySimpa false
open Go Go.RowKit

theorem calls_name {P : Program} {f : FuncId} {args : Array Value} {W : World} {Q : Ending → World → Prop} (h : ∀ W0, W0 = W → Calls P f args W0 Q) : Calls P f args W Q := h W rfl
section
variable {F : Nat → Prop} {w : World} {g : Nat} {t : TypeId}
theorem sl_pairs1 {a b : Int} (h : Blk w g t #[.int .i64 a, .int .i64 b]) (ha : (Lit.int .i64 a).wf = true) (hb : (Lit.int .i64 b).wf = true) : Sl rP (fun _ => True) w (some ⟨g, 0, none⟩) 1 1 [(a, b)] :=
  Sl.of_blk h rfl (by simp [maxLen]) trivial fun k x hx => by
    match k, hx with
    | 0, hx => simp at hx; subst hx; exact ⟨[.int .i64 a, .int .i64 b], fun j u hu => by match j, hu with | 0, hu => simpa using hu | 1, hu => simpa using hu, rfl, ha, hb⟩
    | k + 1, hx => simp at hx
theorem sl_pairs2 {a b c d : Int} (h : Blk w g t #[.int .i64 a, .int .i64 b, .int .i64 c, .int .i64 d]) (ha : (Lit.int .i64 a).wf = true) (hb : (Lit.int .i64 b).wf = true) (hc : (Lit.int .i64 c).wf = true) (hd : (Lit.int .i64 d).wf = true) : Sl rP (fun _ => True) w (some ⟨g, 0, none⟩) 2 2 [(a, b), (c, d)] :=
  Sl.of_blk h rfl (by simp [maxLen]) trivial fun k x hx => by
    match k, hx with
    | 0, hx => simp at hx; subst hx; exact ⟨[.int .i64 a, .int .i64 b], fun j u hu => by match j, hu with | 0, hu => simpa using hu | 1, hu => simpa using hu, rfl, ha, hb⟩
    | 1, hx => simp at hx; subst hx; exact ⟨[.int .i64 c, .int .i64 d], fun j u hu => by match j, hu with | 0, hu => simpa [Rd.pair] using hu | 1, hu => simpa [Rd.pair] using hu, rfl, hc, hd⟩
    | k + 2, hx => simp at hx
theorem sl_rows2 {A0 A1 : Option Addr} {n0 n1 c0 c1 : Nat} {r0 r1 : List Int} (h : Blk w g t #[.slice A0 n0 c0, .slice A1 n1 c1]) (s0 : Sl rI (fun _ => True) w A0 n0 c0 r0) (s1 : Sl rI (fun _ => True) w A1 n1 c1 r1) : Sl rT (fun _ => True) w (some ⟨g, 0, none⟩) 2 2 [r0, r1] :=
  Sl.of_blk h rfl (by simp [maxLen]) trivial fun k x hx => by
    match k, hx with
    | 0, hx => simp at hx; subst hx; exact ⟨[.slice A0 n0 c0], fun j u hu => by match j, hu with | 0, hu => simpa using hu, _, _, _, rfl, s0⟩
    | 1, hx => simp at hx; subst hx; exact ⟨[.slice A1 n1 c1], fun j u hu => by match j, hu with | 0, hu => simpa [Rd.slice] using hu, _, _, _, rfl, s1⟩
    | k + 2, hx => simp at hx
theorem sl_rows3 {A0 A1 A2 : Option Addr} {n0 n1 n2 c0 c1 c2 : Nat} {r0 r1 r2 : List Int} (h : Blk w g t #[.slice A0 n0 c0, .slice A1 n1 c1, .slice A2 n2 c2]) (s0 : Sl rI (fun _ => True) w A0 n0 c0 r0) (s1 : Sl rI (fun _ => True) w A1 n1 c1 r1) (s2 : Sl rI (fun _ => True) w A2 n2 c2 r2) : Sl rT (fun _ => True) w (some ⟨g, 0, none⟩) 3 3 [r0, r1, r2] :=
  Sl.of_blk h rfl (by simp [maxLen]) trivial fun k x hx => by
    match k, hx with
    | 0, hx => simp at hx; subst hx; exact ⟨[.slice A0 n0 c0], fun j u hu => by match j, hu with | 0, hu => simpa using hu, _, _, _, rfl, s0⟩
    | 1, hx => simp at hx; subst hx; exact ⟨[.slice A1 n1 c1], fun j u hu => by match j, hu with | 0, hu => simpa [Rd.slice] using hu, _, _, _, rfl, s1⟩
    | 2, hx => simp at hx; subst hx; exact ⟨[.slice A2 n2 c2], fun j u hu => by match j, hu with | 0, hu => simpa [Rd.slice] using hu, _, _, _, rfl, s2⟩
    | k + 3, hx => simp at hx
theorem sl_ints (l : List Int) (h : Blk w g t (l.map (Value.int .i64)).toArray) (hl : l.length ≤ 100) (hw : ∀ x ∈ l, (Lit.int .i64 x).wf = true) : Sl rI (fun _ => True) w (some ⟨g, 0, none⟩) l.length l.length l :=
  Sl.of_blk_ints h rfl (by simp only [maxLen]; omega) trivial hw
end
theorem sameInts_v {F G : Nat → Prop} {A B : Option Addr} {n m c d : Nat} {w : World} {xs ys : List Int} (hx : Sl rI F w A n c xs) (hy : Sl rI G w B m d ys) (h : xs = ys) :
    Calls Tryd.prog 23 #[.slice A n c, .slice B m d] w fun e w' => e = .returned (.bool true) ∧ Ext w w' :=
  (SameInts_c hx hy).mono fun e w' ⟨h1, q, hq⟩ => ⟨by rw [h1, decide_eq_true h], hq ▸ Ext.drewN _ _⟩
theorem jobFits_v {F G : Nat → Prop} {A B : Option Addr} {m n c c2 : Nat} {d : List (List Int)} {stops : List (Int × Int)} {w : World} {r : Option (ByteArray × Int × Int)} {dep cap lim : Int} (h : fitsErr d cap lim stops = r) (hs : Sl rP F w A n c stops) (hd : Sl rT G w B m c2 d) (hn : n ≤ 1000) :
    Calls Tryd.prog 28 #[.agg #[.int .i64 dep, .int .i64 cap, .int .i64 lim, .slice A n c], .slice B m c2] w (ErrPost r w) := by rw [← h]; exact jobFits_c dep cap lim hs hd hn
theorem jobCheck_v {F : Nat → Prop} {A : Option Addr} {n c : Nat} {stops : List (Int × Int)} {w : World} {r : Option (ByteArray × Int × Int)} {arcs dep cap lim : Int} (h : jobErr arcs dep cap lim stops = r) (hs : Sl rP F w A n c stops) :
    Calls Tryd.prog 20 #[.int .i64 arcs, .agg #[.int .i64 dep, .int .i64 cap, .int .i64 lim, .slice A n c]] w (ErrPost r w) := by rw [← h]; exact jobCheck_c arcs dep cap lim hs
theorem jobSquare_v {F : Nat → Prop} {A : Option Addr} {m c : Nat} {d : List (List Int)} {w : World} {r : Option (ByteArray × Int × Int)} {n : Int} (h : squareErr n d = r) (hs : Sl rT F w A m c d) : Calls Tryd.prog 63 #[.int .i64 n, .slice A m c] w (ErrPost r w) := by rw [← h]; exact jobSquare_c n hs
theorem jobLength_v {F G : Nat → Prop} {A B : Option Addr} {m n c c2 : Nat} {d : List (List Int)} {route : List Int} {w : World} {x : Int} (h : lengthI d route = x) (hs : Sl rT F w A m c d) (hr : Sl rI G w B n c2 route) : Calls Tryd.prog 45 #[.slice A m c, .slice B n c2] w fun e w' => e = .returned (.int .i64 x) ∧ Ext w w' := by rw [← h]; exact jobLength_c hs hr
theorem jobLoad_v {F G : Nat → Prop} {A B : Option Addr} {m n c c2 : Nat} {route : List Int} {stops : List (Int × Int)} {w : World} {x dep cap lim : Int} (h : loadI stops route = x) (hs : Sl rP F w A m c stops) (hr : Sl rI G w B n c2 route) (hl : ∀ x ∈ stops, 0 ≤ x.2 ∧ x.2 ≤ 2147483648) (hn : n ≤ 1000) :
    Calls Tryd.prog 46 #[.agg #[.int .i64 dep, .int .i64 cap, .int .i64 lim, .slice A m c], .slice B n c2] w fun e w' => e = .returned (.int .i64 x) ∧ Ext w w' := by rw [← h]; exact jobLoad_c dep cap lim hs hr hl hn
theorem tells_two {F G : Nat → Prop} {w : World} {v : Value} {A : Option Addr} {c : Nat} {s : ByteArray} {a e : Int} (hg : HandleIs w) (hv : ErrIs F w v (some (s, a, e))) (hw : Sl Rd.part G w A 1 c [(s, a)]) :
    Calls Tryd.prog 19 #[v, .agg #[.slice A 1 c, .int .i64 e]] w fun ev w' => ev = .returned (.bool true) ∧ Ext w w' :=
  tells_c hg hv (G := G) ⟨hv.1, A, c, rfl, hw⟩
set_option maxRecDepth 100000 in
set_option maxHeartbeats 16000000 in
theorem known24_c {w : World} (hg : HandleIs w) : Calls Tryd.prog 18 #[] w fun e w' => e = .returned (.bool true) ∧ Ext w w' := by
  have t1 : fitsErr [[0, 50, 20], [51, 0, 5], [40, 7, 0]] 10 100 [(5, 4), (7, 6)] = some (stopW, 1, 14) := by decide
  have t2 : jobErr 8 3 10 100 [(5, 4), (7, 6)] = none := by decide
  have t3 : jobErr 7 3 10 100 [(5, 4), (7, 6)] = some (stopW, 2, 5) := by decide
  have t4 : fitsErr [[0, 10, 20], [30, 0, 5], [40, 7, 0]] 10 100 [(5, 4), (7, 6)] = none := by decide
  have t5 : loadI [(5, 4), (7, 6)] [2, 1] = 10 := by decide
  have t6 : lengthI [[0, 10, 20], [30, 0, 5], [40, 7, 0]] [1, 2] = 55 := by decide
  have t7 : lengthI [[0, 10, 20], [30, 0, 5], [40, 7, 0]] [] = 0 := by decide
  have t8 : lengthI [[0, 10, 20], [30, 0, 5], [40, 7, 0]] [3] = 1152921504606846976 := by decide
  have t9 : squareErr 2 [[0, 10, 20], [30, 0, 5], [40, 7, 0]] = some (tableW, 0, 1) := by decide
  have T1 := Lib.hid t1
  have T2 := Lib.hid t2
  have T3 := Lib.hid t3
  have T4 := Lib.hid t4
  have T5 := Lib.hid t5
  have T6 := Lib.hid t6
  have T7 := Lib.hid t7
  have T8 := Lib.hid t8
  have T9 := Lib.hid t9
  clear t1 t2 t3 t4 t5 t6 t7 t8 t9
  go_enter Tryd.func18, Tryd.ntmps18
  go_wp2_with fail
  refine calls_name fun W0 hW0 => ?_
  have bs : Blk W0 (w.heap.size) 55 #[.int .i64 5, .int .i64 4, .int .i64 7, .int .i64 6] := by rw [hW0]; exact Blk.alloc (Blk.alloc (Blk.alloc (Blk.alloc (Blk.alloc (Blk.alloc (Blk.alloc (Blk.alloc (Blk.alloc (Blk.new _ _ _) _) _) _) _) _) _) _) _) _
  have bj : Blk W0 (w.heap.size + 1) 32 #[.int .i64 3, .int .i64 10, .int .i64 100, .slice (some ⟨w.heap.size, 0, none⟩) 2 2] := by rw [hW0]; exact Blk.alloc (Blk.alloc (Blk.alloc (Blk.alloc (Blk.alloc (Blk.alloc (Blk.alloc (Blk.alloc (Blk.new_at (by simp)) _) _) _) _) _) _) _) _
  have b0 : Blk W0 (w.heap.size + 1 + 1) 2 #[.int .i64 0, .int .i64 10, .int .i64 20] := by rw [hW0]; exact Blk.alloc (Blk.alloc (Blk.alloc (Blk.alloc (Blk.alloc (Blk.alloc (Blk.alloc (Blk.new_at (by simp)) _) _) _) _) _) _) _
  have b1 : Blk W0 (w.heap.size + 1 + 1 + 1) 2 #[.int .i64 30, .int .i64 0, .int .i64 5] := by rw [hW0]; exact Blk.alloc (Blk.alloc (Blk.alloc (Blk.alloc (Blk.alloc (Blk.alloc (Blk.new_at (by simp)) _) _) _) _) _) _
  have b2 : Blk W0 (w.heap.size + 1 + 1 + 1 + 1) 2 #[.int .i64 40, .int .i64 7, .int .i64 0] := by rw [hW0]; exact Blk.alloc (Blk.alloc (Blk.alloc (Blk.alloc (Blk.alloc (Blk.new_at (by simp)) _) _) _) _) _
  have bd : Blk W0 (w.heap.size + 1 + 1 + 1 + 1 + 1) 53 #[.slice (some ⟨w.heap.size + 1 + 1, 0, none⟩) 3 3, .slice (some ⟨w.heap.size + 1 + 1 + 1, 0, none⟩) 3 3, .slice (some ⟨w.heap.size + 1 + 1 + 1 + 1, 0, none⟩) 3 3] := by rw [hW0]; exact Blk.alloc (Blk.alloc (Blk.alloc (Blk.alloc (Blk.new_at (by simp)) _) _) _) _
  have f0 : Blk W0 (w.heap.size + 1 + 1 + 1 + 1 + 1 + 1) 2 #[.int .i64 0, .int .i64 50, .int .i64 20] := by rw [hW0]; exact Blk.alloc (Blk.alloc (Blk.alloc (Blk.new_at (by simp)) _) _) _
  have f1 : Blk W0 (w.heap.size + 1 + 1 + 1 + 1 + 1 + 1 + 1) 2 #[.int .i64 51, .int .i64 0, .int .i64 5] := by rw [hW0]; exact Blk.alloc (Blk.alloc (Blk.new_at (by simp)) _) _
  have f2 : Blk W0 (w.heap.size + 1 + 1 + 1 + 1 + 1 + 1 + 1 + 1) 2 #[.int .i64 40, .int .i64 7, .int .i64 0] := by rw [hW0]; exact Blk.alloc (Blk.new_at (by simp)) _
  have bf : Blk W0 (w.heap.size + 1 + 1 + 1 + 1 + 1 + 1 + 1 + 1 + 1) 53 #[.slice (some ⟨w.heap.size + 1 + 1 + 1 + 1 + 1 + 1, 0, none⟩) 3 3, .slice (some ⟨w.heap.size + 1 + 1 + 1 + 1 + 1 + 1 + 1, 0, none⟩) 3 3, .slice (some ⟨w.heap.size + 1 + 1 + 1 + 1 + 1 + 1 + 1 + 1, 0, none⟩) 3 3] := by rw [hW0]; exact Blk.new_at (by simp)
  have hE0 : Ext w W0 := by rw [hW0]; exact (by repeat (first | exact Ext.refl _ | assumption | refine Ext.al ?_ | refine Ext.dr ?_ | refine Ext.dn ?_ | (refine Ext.st ?_ ?_; · first | omega | (simp; done) | (simp; omega)) | refine Ext.trans ?_ (by assumption)))
  clear hW0
  have hs := sl_pairs2 bs rfl rfl rfl rfl
  have hd := sl_rows3 bd (sl_ints [0, 10, 20] b0 (by decide) (by decide)) (sl_ints [30, 0, 5] b1 (by decide) (by decide)) (sl_ints [40, 7, 0] b2 (by decide) (by decide))
  have hf := sl_rows3 bf (sl_ints [0, 50, 20] f0 (by decide) (by decide)) (sl_ints [51, 0, 5] f1 (by decide) (by decide)) (sl_ints [40, 7, 0] f2 (by decide) (by decide))
  have HS : ∀ W, Ext W0 W → Sl rP (fun _ => True) W (some ⟨w.heap.size, 0, none⟩) 2 2 [(5, 4), (7, 6)] := fun W h => hs.ext h
  have HD : ∀ W, Ext W0 W → Sl rT (fun _ => True) W (some ⟨w.heap.size + 1 + 1 + 1 + 1 + 1, 0, none⟩) 3 3 [[0, 10, 20], [30, 0, 5], [40, 7, 0]] := fun W h => hd.ext h
  have HJ : ∀ W, Ext W0 W → W.cell? ⟨w.heap.size + 1, 0, none⟩ = some (.int .i64 3) ∧ W.cell? ⟨w.heap.size + 1, 1, none⟩ = some (.int .i64 10) ∧ W.cell? ⟨w.heap.size + 1, 2, none⟩ = some (.int .i64 100) ∧ W.cell? ⟨w.heap.size + 1, 3, none⟩ = some (.slice (some ⟨w.heap.size, 0, none⟩) 2 2) := fun W h => ⟨(bj.ext h).cell 0, (bj.ext h).cell 1, (bj.ext h).cell 2, (bj.ext h).cell 3⟩
  have HJ' := Lib.hid HJ
  have HLD : Hid (∀ x ∈ [((5 : Int), (4 : Int)), (7, 6)], 0 ≤ x.2 ∧ x.2 ≤ 2147483648) := Lib.hid (by decide)
  have HH := Lib.hid hg
  clear bs bj b0 b1 b2 bd f0 f1 f2 bf hd HJ hg
  refine (jobFits_v T1.out hs hf (by omega)).mono ?_
  rintro e w1 ⟨v1, rfl, hv1, he1⟩
  have HV1 := Lib.hid hv1
  have hE1 := he1
  obtain ⟨z0, z1, z2, z3⟩ := HJ'.out _ hE1
  clear he1 hs hf hv1
  go_wp2_with fail
  refine (jobCheck_v T2.out (HS _ hE1)).mono ?_
  rintro e w2 ⟨v2, rfl, hv2, he2⟩
  have hE2 := hE1.trans he2
  clear z0 z1 z2 z3
  obtain ⟨z0, z1, z2, z3⟩ := HJ'.out _ hE2
  obtain rfl : v2 = .nilIface := hv2
  replace HV1 := Lib.hid (HV1.out.ext he2)
  clear he2 hE1
  go_wp2_with fail
  refine (jobCheck_v T3.out (HS _ hE2)).mono ?_
  rintro e w3 ⟨v3, rfl, hv3, he3⟩
  have hE3 := hE2.trans he3
  clear z0 z1 z2 z3
  obtain ⟨z0, z1, z2, z3⟩ := HJ'.out _ hE3
  have HV3 := Lib.hid hv3
  clear hv3
  replace HV1 := Lib.hid (HV1.out.ext he3)
  clear he3 hE2
  go_wp2_with fail
  refine (At_c stopW 2 5 _ (by decide) (by decide)).mono ?_
  rintro e w4 ⟨A4, c4, rfl, hx4, he4⟩
  have hE4 := hE3.trans he4
  clear z0 z1 z2 z3
  obtain ⟨z0, z1, z2, z3⟩ := HJ'.out _ hE4
  replace HV3 := Lib.hid (HV3.out.ext he4)
  replace HV1 := Lib.hid (HV1.out.ext he4)
  clear he4 hE3
  go_wp2_with fail
  refine (tells_two (HH.out.ext (hE0.trans hE4)) HV3.out hx4).mono ?_
  rintro e w5 ⟨rfl, he5⟩
  have hE5 := hE4.trans he5
  clear z0 z1 z2 z3
  obtain ⟨z0, z1, z2, z3⟩ := HJ'.out _ hE5
  replace HV1 := Lib.hid (HV1.out.ext he5)
  clear HV3 hx4
  clear he5 hE4
  go_wp2_with fail
  refine (jobPoints_c 3 10 100 (by decide) (HS _ hE5) (by omega)).mono ?_
  rintro e w6 ⟨A6, n6, c6, rfl, hx6, he6⟩
  have hE6 := hE5.trans he6
  clear z0 z1 z2 z3
  obtain ⟨z0, z1, z2, z3⟩ := HJ'.out _ hE6
  replace HV1 := Lib.hid (HV1.out.ext he6)
  clear he6 hE5
  go_wp2_with fail
  refine (sameInts_v (hx6.ext (Ext.al (Ext.refl _))) (sl_ints [3, 5, 7] (Blk.new _ _ _) (by decide) (by decide)) (by rfl)).mono ?_
  rintro e w7 ⟨rfl, he7⟩
  have hE7 := hE6.trans (Ext.trans (Ext.al (Ext.refl _)) he7)
  clear z0 z1 z2 z3
  obtain ⟨z0, z1, z2, z3⟩ := HJ'.out _ hE7
  replace HV1 := Lib.hid (HV1.out.ext (Ext.trans (Ext.al (Ext.refl _)) he7))
  clear hx6
  clear he7 hE6
  go_wp2_with fail
  refine (jobFits_v T4.out (HS _ hE7) (HD _ hE7) (by omega)).mono ?_
  rintro e w8 ⟨v8, rfl, hv8, he8⟩
  have hE8 := hE7.trans he8
  clear z0 z1 z2 z3
  obtain ⟨z0, z1, z2, z3⟩ := HJ'.out _ hE8
  obtain rfl : v8 = .nilIface := hv8
  replace HV1 := Lib.hid (HV1.out.ext he8)
  clear he8 hE7
  go_wp2_with fail
  refine (At_c stopW 1 14 _ (by decide) (by decide)).mono ?_
  rintro e w9 ⟨A9, c9, rfl, hx9, he9⟩
  have hE9 := hE8.trans he9
  clear z0 z1 z2 z3
  obtain ⟨z0, z1, z2, z3⟩ := HJ'.out _ hE9
  replace HV1 := Lib.hid (HV1.out.ext he9)
  clear he9 hE8
  go_wp2_with fail
  refine (tells_two (HH.out.ext (hE0.trans hE9)) HV1.out hx9).mono ?_
  rintro e w10 ⟨rfl, he10⟩
  have hE10 := hE9.trans he10
  clear z0 z1 z2 z3
  obtain ⟨z0, z1, z2, z3⟩ := HJ'.out _ hE10
  clear HV1 hx9
  clear he10 hE9
  go_wp2_with fail
  refine (jobLoad_v T5.out (HS _ (hE10.trans (Ext.al (Ext.refl _)))) (sl_ints [2, 1] (Blk.new _ _ _) (by decide) (by decide)) HLD.out (by decide)).mono ?_
  rintro e w11 ⟨rfl, he11⟩
  have hE11 := hE10.trans (Ext.trans (Ext.al (Ext.refl _)) he11)
  clear z0 z1 z2 z3
  obtain ⟨z0, z1, z2, z3⟩ := HJ'.out _ hE11
  clear he11 hE10
  go_wp2_with fail
  refine (jobLength_v T6.out (HD _ (hE11.trans (Ext.al (Ext.refl _)))) (sl_ints [1, 2] (Blk.new _ _ _) (by decide) (by decide))).mono ?_
  rintro e w12 ⟨rfl, he12⟩
  have hE12 := hE11.trans (Ext.trans (Ext.al (Ext.refl _)) he12)
  clear z0 z1 z2 z3
  obtain ⟨z0, z1, z2, z3⟩ := HJ'.out _ hE12
  clear he12 hE11
  go_wp2_with fail
  refine (jobLength_v T7.out (HD _ hE12) (Sl.nil rI (fun _ => True) _)).mono ?_
  rintro e w13 ⟨rfl, he13⟩
  have hE13 := hE12.trans he13
  clear z0 z1 z2 z3
  obtain ⟨z0, z1, z2, z3⟩ := HJ'.out _ hE13
  clear he13 hE12
  go_wp2_with fail
  refine (jobLength_v T8.out (HD _ (hE13.trans (Ext.al (Ext.refl _)))) (sl_ints [3] (Blk.new _ _ _) (by decide) (by decide))).mono ?_
  rintro e w14 ⟨rfl, he14⟩
  have hE14 := hE13.trans (Ext.trans (Ext.al (Ext.refl _)) he14)
  clear z0 z1 z2 z3
  obtain ⟨z0, z1, z2, z3⟩ := HJ'.out _ hE14
  clear he14 hE13
  go_wp2_with fail
  refine (jobSquare_v T9.out (HD _ hE14)).mono ?_
  rintro e w15 ⟨v15, rfl, hv15, he15⟩
  have hE15 := hE14.trans he15
  clear z0 z1 z2 z3
  obtain ⟨z0, z1, z2, z3⟩ := HJ'.out _ hE15
  have HV15 := Lib.hid hv15
  clear hv15
  clear he15 hE14
  go_wp2_with fail
  refine (At_c tableW 0 1 _ (by decide) (by decide)).mono ?_
  rintro e w16 ⟨A16, c16, rfl, hx16, he16⟩
  have hE16 := hE15.trans he16
  clear z0 z1 z2 z3
  obtain ⟨z0, z1, z2, z3⟩ := HJ'.out _ hE16
  replace HV15 := Lib.hid (HV15.out.ext he16)
  clear he16 hE15
  go_wp2_with fail
  refine (tells_two (HH.out.ext (hE0.trans hE16)) HV15.out hx16).mono ?_
  rintro e w17 ⟨rfl, he17⟩
  clear z0 z1 z2 z3
  go_wp2_with fail
  go_ret
  exact ⟨rfl, hE0.trans (hE16.trans he17)⟩
end Go.Proofs.YtmgokaancnifeaaDoor
