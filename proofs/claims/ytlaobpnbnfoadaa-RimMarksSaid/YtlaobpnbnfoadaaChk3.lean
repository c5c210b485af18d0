/-
  Which nets and cells a law looks at: Few, Small, May, stepped through. Conditions: the readings.
-/
import Derived.Test.YtlaobpnbnfoadaaChk2
import Derived.Test.YtlaobpnbnfoadaaPart2
namespace Go.Proofs.Ytlaobpnbnfoadaa
set_option linter.unusedVariables false
set_option linter.unusedSimpArgs false
set_option linter.unusedSectionVars false
set_option linter.unnecessarySimpa false
open Go Go.RowKit

theorem field_err (A : Option Addr) (n c : Nat) (er : Int) (W : World) : (Instr.field 87 (.agg #[.slice A n c, .int .i64 er]) 1).run Try.prog W = .ok (.int .i64 er) W := by kernel_rfl
/-- A bool that promises something where it is true. -/
def BoolIs (Q : Prop) (w : World) (e : Ending) (w' : World) : Prop := ∃ b, e = .returned (.bool b) ∧ (b = true → Q) ∧ Ext w w'
section
variable {F : Nat → Prop} {A : Option Addr} {n c : Nat} {p : List (List Int)} {w : World}
set_option maxRecDepth 100000 in
set_option maxHeartbeats 2000000 in
theorem partFew_c (hp : Sl rRows F w A n c p) :
    Calls Try.prog 41 #[.agg #[.slice A n c]] w (BoolIs (n ≤ 10 ∧ ∀ x ∈ p, x.length ≤ 60) w) := by
  have hm := hp.max
  have hl := hp.le
  have L := Lib.hid hp.len
  unfold maxLen at hm
  go_enter Try.func41, Try.ntmps41
  go_wp2_with fail
  go_loop [3] (fun i => ∃ k : Nat, k ≤ n ∧ i = .int .i64 k ∧ Hid (∀ j x, j < k → p[j]? = some x → x.length ≤ 60)) (fun i => n - (intOf i).toNat)
  case atStart => exact ⟨0, Nat.zero_le _, rfl, fun j _ h => absurd h (by omega)⟩
  case round =>
    obtain ⟨k, hk, rfl, hs1⟩ := hrel
    by_cases hkn : k < n
    · obtain ⟨b, o, A1, n1, c1, x, rfl, hb, hx, e1, hr⟩ := hp.row hkn
      by_cases h60 : n1 ≤ 60
      · go_wp2_with fail
        all_goals first | (exfalso; omega) | skip
        go_round
        case rel => exact ⟨k + 1, by omega, by go_num, all_step hs1.out hx.out (by rw [hr.len]; exact h60)⟩
        case measure => simp [intOf]; omega
      · go_wp2_with fail
        all_goals first | (exfalso; omega) | skip
        go_ret
        exact ⟨_, rfl, (fun h => by cases h), (by repeat (first | exact Ext.refl _ | assumption | refine Ext.al ?_ | refine Ext.dr ?_ | refine Ext.dn ?_ | (refine Ext.st ?_ ?_; · first | omega | (simp; done) | (simp; omega)) | refine Ext.trans ?_ (by assumption)))⟩
    · obtain rfl : k = n := by omega
      have hall := Lib.hid (all_take hs1.out L.out)
      go_wp2_with fail
      all_goals first | (exfalso; omega) | skip
      go_ret
      exact ⟨_, rfl, (fun h => ⟨by simp at h; omega, hall.out⟩), (by repeat (first | exact Ext.refl _ | assumption | refine Ext.al ?_ | refine Ext.dr ?_ | refine Ext.dn ?_ | (refine Ext.st ?_ ?_; · first | omega | (simp; done) | (simp; omega)) | refine Ext.trans ?_ (by assumption)))⟩
set_option maxRecDepth 100000 in
set_option maxHeartbeats 2000000 in
theorem partMay_c (nv : Int) (hp : Sl rRows F w A n c p) (hnv : 0 ≤ nv) :
    Calls Try.prog 29 #[.int .i64 nv, .agg #[.slice A n c]] w (BoolIs (nv ≤ 60 ∧ PartOk nv.toNat p) w) := by
  obtain ⟨nv, rfl⟩ := Int.eq_ofNat_of_zero_le hnv
  go_enter Try.func29, Try.ntmps29
  go_wp2_with fail
  all_goals first | (exfalso; omega) | skip
  refine (partFew_c (hp.ext (by repeat (first | exact Ext.refl _ | assumption | refine Ext.al ?_ | refine Ext.dr ?_ | refine Ext.dn ?_ | (refine Ext.st ?_ ?_; · first | omega | (simp; done) | (simp; omega)) | refine Ext.trans ?_ (by assumption))))).mono ?_
  rintro e w1 ⟨b, rfl, hb, he1⟩
  have hx1 : Ext w w1 := Ext.trans (Ext.al (Ext.refl w)) he1
  have r0 : w1.cell? ⟨w.heap.size, 0, none⟩ = some (.slice A n c) := (he1.cell (p := ⟨w.heap.size, 0, none⟩) (by simp)).trans (by simp)
  cases b with
  | false =>
    go_wp2_with fail
    all_goals first | (exfalso; omega) | skip
    go_ret
    exact ⟨_, rfl, (fun h => by cases h), hx1⟩
  | true =>
    by_cases h60 : nv ≤ 60
    · go_wp2_with fail
      all_goals first | (exfalso; omega) | skip
      refine (CheckPart_c (nv : Int) (hp.ext hx1) (Sl.nil rI (fun _ => True) _)).mono ?_
      rintro e w2 ⟨r, hr, A2, n2, c2, rfl, -, he2⟩
      have HR := Lib.hid hr
      clear hr
      by_cases her : wrongErr r = 0
      · rw [her]
        have hfd := field_err A2 n2 c2 0 w2
        go_wp2_with fail
        all_goals first | (exfalso; omega) | skip
        go_ret
        exact ⟨_, rfl, (fun _ => ⟨by omega, by simpa using partOk_of HR.out her⟩), hx1.trans he2⟩
      · have hd : (wrongErr r == 0) = false := by simpa using her
        have hfd := field_err A2 n2 c2 (wrongErr r) w2
        go_wp2_with fail
        all_goals first | (exfalso; omega) | skip
        go_ret
        exact ⟨_, rfl, (fun h => by cases h), hx1.trans he2⟩
    · go_wp2_with fail
      all_goals first | (exfalso; omega) | skip
      go_ret
      exact ⟨_, rfl, (fun h => by cases h), hx1⟩
end
section
variable {F0 F1 F2 : Nat → Prop} {A0 A1 A2 : Option Addr} {n0 n1 n2 c0 c1 c2 : Nat} {verts arcs : List Tri} {types : List Tab} {w : World}
set_option maxRecDepth 100000 in
set_option maxHeartbeats 4000000 in
theorem netFew_c (h2 : Sl Rd.table F2 w A2 n2 c2 types) :
    Calls Try.prog 51 #[.agg #[.slice A0 n0 c0, .slice A1 n1 c1, .slice A2 n2 c2]] w (BoolIs (n0 ≤ 80 ∧ n1 ≤ 300 ∧ n2 ≤ 80 ∧ ∀ t ∈ types, t.2.2.length ≤ 300) w) := by
  have hm := h2.max
  have hl := h2.le
  have L := Lib.hid h2.len
  unfold maxLen at hm
  by_cases hf : n0 ≤ 80 ∧ n1 ≤ 300 ∧ n2 ≤ 80
  · go_enter Try.func51, Try.ntmps51
    go_wp2_with fail
    all_goals first | (exfalso; omega) | skip
    go_loop [3] (fun i => ∃ k : Nat, k ≤ n2 ∧ i = .int .i64 k ∧ Hid (∀ j (t : Tab), j < k → types[j]? = some t → t.2.2.length ≤ 300)) (fun i => n2 - (intOf i).toNat)
    case atStart => exact ⟨0, Nat.zero_le _, rfl, fun j _ h => absurd h (by omega)⟩
    case round =>
      obtain ⟨k, hk, rfl, hs1⟩ := hrel
      by_cases hkn : k < n2
      · obtain ⟨b, o, x, y, A', n', c', zs, rfl, hbl, hxa, e1, e2, e3, -, -, hsl⟩ := h2.table hkn
        by_cases h60 : n' ≤ 300
        · go_wp2_with fail
          all_goals first | (exfalso; omega) | skip
          go_round
          case rel => exact ⟨k + 1, by omega, by go_num, all_step hs1.out hxa.out (by dsimp only; rw [hsl.len]; exact h60)⟩
          case measure => simp [intOf]; omega
        · go_wp2_with fail
          all_goals first | (exfalso; omega) | skip
          go_ret
          exact ⟨_, rfl, (fun h => by cases h), (by repeat (first | exact Ext.refl _ | assumption | refine Ext.al ?_ | refine Ext.dr ?_ | refine Ext.dn ?_ | (refine Ext.st ?_ ?_; · first | omega | (simp; done) | (simp; omega)) | refine Ext.trans ?_ (by assumption)))⟩
      · obtain rfl : k = n2 := by omega
        have hall := Lib.hid (all_take hs1.out L.out)
        go_wp2_with fail
        all_goals first | (exfalso; omega) | skip
        go_ret
        exact ⟨_, rfl, (fun _ => by first | exact ⟨hf.1, hf.2.1, hf.2.2, hall.out⟩ | exact fun a b c h => hall.out _ h), (by repeat (first | exact Ext.refl _ | assumption | refine Ext.al ?_ | refine Ext.dr ?_ | refine Ext.dn ?_ | (refine Ext.st ?_ ?_; · first | omega | (simp; done) | (simp; omega)) | refine Ext.trans ?_ (by assumption)))⟩
  · go_enter Try.func51, Try.ntmps51
    go_wp2_with fail
    all_goals first | (exfalso; omega) | skip
    all_goals go_ret
    all_goals exact ⟨_, rfl, (fun h => by cases h), (by repeat (first | exact Ext.refl _ | assumption | refine Ext.al ?_ | refine Ext.dr ?_ | refine Ext.dn ?_ | (refine Ext.st ?_ ?_; · first | omega | (simp; done) | (simp; omega)) | refine Ext.trans ?_ (by assumption)))⟩
/-- What 'May' of a net promises. -/
structure MayNet (verts arcs : List Tri) (types : List Tab) : Prop where
  nv : verts.length ≤ 80
  na : arcs.length ≤ 300
  nt : types.length ≤ 80
  cost : ∀ t ∈ types, t.2.2.length ≤ 300
  ok : NetOk verts arcs types
set_option maxRecDepth 100000 in
set_option maxHeartbeats 4000000 in
theorem netMay_c (h0 : Sl rTri F0 w A0 n0 c0 verts) (h1 : Sl rTri F1 w A1 n1 c1 arcs) (h2 : Sl Rd.table F2 w A2 n2 c2 types) :
    Calls Try.prog 40 #[.agg #[.slice A0 n0 c0, .slice A1 n1 c1, .slice A2 n2 c2]] w (BoolIs (MayNet verts arcs types) w) := by
  have L0 := Lib.hid h0.len
  have L1 := Lib.hid h1.len
  have L2 := Lib.hid h2.len
  go_enter Try.func40, Try.ntmps40
  go_wp2_with fail
  all_goals first | (exfalso; omega) | skip
  refine (netFew_c (h2.ext (by repeat (first | exact Ext.refl _ | assumption | refine Ext.al ?_ | refine Ext.dr ?_ | refine Ext.dn ?_ | (refine Ext.st ?_ ?_; · first | omega | (simp; done) | (simp; omega)) | refine Ext.trans ?_ (by assumption))))).mono ?_
  rintro e w1 ⟨b, rfl, hb, he1⟩
  have hx1 : Ext w w1 := Ext.trans (Ext.al (Ext.refl w)) he1
  have r0 : w1.cell? ⟨w.heap.size, 0, none⟩ = some (.slice A0 n0 c0) := (he1.cell (p := ⟨w.heap.size, 0, none⟩) (by simp)).trans (by simp)
  have r1 : w1.cell? ⟨w.heap.size, 1, none⟩ = some (.slice A1 n1 c1) := (he1.cell (p := ⟨w.heap.size, 1, none⟩) (by simp)).trans (by simp)
  have r2 : w1.cell? ⟨w.heap.size, 2, none⟩ = some (.slice A2 n2 c2) := (he1.cell (p := ⟨w.heap.size, 2, none⟩) (by simp)).trans (by simp)
  cases b with
  | false =>
    go_wp2_with fail
    all_goals first | (exfalso; omega) | skip
    go_ret
    exact ⟨_, rfl, (fun h => by cases h), hx1⟩
  | true =>
    obtain ⟨m0, m1, m2, m3⟩ := hb rfl
    go_wp2_with fail
    all_goals first | (exfalso; omega) | skip
    refine (CheckNet_c (h0.ext hx1) (h1.ext hx1) (h2.ext hx1) m0 m1 m2).mono ?_
    rintro e w2 ⟨A, n, c, er, rfl, hr, -, he2⟩
    have HR := Lib.hid hr
    clear hr
    by_cases her : er = 0
    · subst her
      have hfd := field_err A n c 0 w2
      go_wp2_with fail
      all_goals first | (exfalso; omega) | skip
      go_ret
      exact ⟨_, rfl, (fun _ => ⟨by rw [L0.out]; exact m0, by rw [L1.out]; exact m1, by rw [L2.out]; exact m2, m3, HR.out (by trivial)⟩), hx1.trans he2⟩
    · have hd : (er == 0) = false := by simpa using her
      have hfd := field_err A n c er w2
      go_wp2_with fail
      all_goals first | (exfalso; omega) | skip
      go_ret
      exact ⟨_, rfl, (fun h => by cases h), hx1.trans he2⟩
set_option maxRecDepth 100000 in
set_option maxHeartbeats 4000000 in
theorem Small_c (h0 : Sl rTri F0 w A0 n0 c0 verts) (h1 : Sl rTri F1 w A1 n1 c1 arcs) (h2 : Sl Rd.table F2 w A2 n2 c2 types) :
    Calls Try.prog 28 #[.agg #[.slice A0 n0 c0, .slice A1 n1 c1, .slice A2 n2 c2]] w (BoolIs (MayNet verts arcs types) w) := by
  by_cases hs : n0 ≤ 24 ∧ n1 ≤ 90
  · go_enter Try.func28, Try.ntmps28
    go_wp2_with fail
    all_goals first | (exfalso; omega) | skip
    refine (netMay_c (h0.ext (by repeat (first | exact Ext.refl _ | assumption | refine Ext.al ?_ | refine Ext.dr ?_ | refine Ext.dn ?_ | (refine Ext.st ?_ ?_; · first | omega | (simp; done) | (simp; omega)) | refine Ext.trans ?_ (by assumption)))) (h1.ext (by repeat (first | exact Ext.refl _ | assumption | refine Ext.al ?_ | refine Ext.dr ?_ | refine Ext.dn ?_ | (refine Ext.st ?_ ?_; · first | omega | (simp; done) | (simp; omega)) | refine Ext.trans ?_ (by assumption)))) (h2.ext (by repeat (first | exact Ext.refl _ | assumption | refine Ext.al ?_ | refine Ext.dr ?_ | refine Ext.dn ?_ | (refine Ext.st ?_ ?_; · first | omega | (simp; done) | (simp; omega)) | refine Ext.trans ?_ (by assumption))))).mono ?_
    rintro e w1 ⟨b, rfl, hb, he1⟩
    have hx1 : Ext w w1 := Ext.trans (Ext.al (Ext.refl w)) he1
    have HB := Lib.hid hb
    clear hb
    cases b with
    | false =>
      go_wp2_with fail
      all_goals first | (exfalso; omega) | skip
      go_ret
      exact ⟨_, rfl, (fun h => by cases h), hx1⟩
    | true =>
      go_wp2_with fail
      all_goals first | (exfalso; omega) | skip
      go_ret
      exact ⟨_, rfl, (fun _ => HB.out (by trivial)), hx1⟩
  · go_enter Try.func28, Try.ntmps28
    go_wp2_with fail
    all_goals first | (exfalso; omega) | skip
    all_goals go_ret
    all_goals exact ⟨_, rfl, (fun h => by cases h), (by repeat (first | exact Ext.refl _ | assumption | refine Ext.al ?_ | refine Ext.dr ?_ | refine Ext.dn ?_ | (refine Ext.st ?_ ?_; · first | omega | (simp; done) | (simp; omega)) | refine Ext.trans ?_ (by assumption)))⟩
end
section
variable {F F0 F1 F2 : Nat → Prop} {A A0 A1 A2 : Option Addr} {n n0 n1 n2 c c0 c1 c2 : Nat} {p : List (List Int)} {verts arcs : List Tri} {types : List Tab} {w : World}
set_option maxRecDepth 100000 in
set_option maxHeartbeats 4000000 in
theorem May_c (h0 : Sl rTri F0 w A0 n0 c0 verts) (h1 : Sl rTri F1 w A1 n1 c1 arcs) (h2 : Sl Rd.table F2 w A2 n2 c2 types) (hp : Sl rRows F w A n c p) :
    Calls Try.prog 8 #[.agg #[.slice A0 n0 c0, .slice A1 n1 c1, .slice A2 n2 c2], .agg #[.slice A n c]] w (BoolIs (MayNet verts arcs types ∧ PartOk verts.length p) w) := by
  have L0 := Lib.hid h0.len
  go_enter Try.func8, Try.ntmps8
  go_wp2_with fail
  all_goals first | (exfalso; omega) | skip
  refine (Small_c (h0.ext (by repeat (first | exact Ext.refl _ | assumption | refine Ext.al ?_ | refine Ext.dr ?_ | refine Ext.dn ?_ | (refine Ext.st ?_ ?_; · first | omega | (simp; done) | (simp; omega)) | refine Ext.trans ?_ (by assumption)))) (h1.ext (by repeat (first | exact Ext.refl _ | assumption | refine Ext.al ?_ | refine Ext.dr ?_ | refine Ext.dn ?_ | (refine Ext.st ?_ ?_; · first | omega | (simp; done) | (simp; omega)) | refine Ext.trans ?_ (by assumption)))) (h2.ext (by repeat (first | exact Ext.refl _ | assumption | refine Ext.al ?_ | refine Ext.dr ?_ | refine Ext.dn ?_ | (refine Ext.st ?_ ?_; · first | omega | (simp; done) | (simp; omega)) | refine Ext.trans ?_ (by assumption))))).mono ?_
  rintro e w1 ⟨b, rfl, hb, he1⟩
  have hx1 : Ext w w1 := Ext.trans (by repeat (first | exact Ext.refl _ | assumption | refine Ext.al ?_ | refine Ext.dr ?_ | refine Ext.dn ?_ | (refine Ext.st ?_ ?_; · first | omega | (simp; done) | (simp; omega)) | refine Ext.trans ?_ (by assumption))) he1
  have r0 : w1.cell? ⟨w.heap.size, 0, none⟩ = some (.slice A0 n0 c0) := (he1.cell (p := ⟨w.heap.size, 0, none⟩) (by simp; omega)).trans (by simp)
  have r1 : w1.cell? ⟨w.heap.size + 1, 0, none⟩ = some (.slice A n c) := (he1.cell (p := ⟨w.heap.size + 1, 0, none⟩) (by simp)).trans (by simp)
  have HB := Lib.hid hb
  clear hb he1
  cases b with
  | false =>
    go_wp2_with fail
    all_goals first | (exfalso; omega) | skip
    go_ret
    exact ⟨_, rfl, (fun h => by cases h), hx1⟩
  | true =>
    go_wp2_with fail
    all_goals first | (exfalso; omega) | skip
    refine (partMay_c (n0 : Int) (hp.ext hx1) (by omega)).mono ?_
    rintro e w2 ⟨b, rfl, hb, he2⟩
    have HB2 := Lib.hid hb
    clear hb
    go_wp2_with fail
    all_goals first | (exfalso; omega) | skip
    go_ret
    exact ⟨_, rfl, (fun h => ⟨HB.out (by trivial), by rw [L0.out]; simpa using (HB2.out h).2⟩), hx1.trans he2⟩
end
end Go.Proofs.Ytlaobpnbnfoadaa
