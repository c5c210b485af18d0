/-
  Contract of law24.known: it returns true. Condition: the variable of package errors holds the handle of the type error.
-/
import Derived.Test.YtmgokaancnifeaaBJob5
import Derived.Test.YtmgokaancnifeaaSame
namespace Go.Proofs.Ytmgokaancnifeaa
set_option linter.unusedVariables false
set_option linter.unusedSimpArgs false
set_option linter.unusedSectionVars false
set_option linter.unnecessarySimpa false
open Go Go.RowKit

theorem calls_name {P : Program} {f : FuncId} {args : Array Value} {W : World} {Q : Ending → World → Prop} (h : ∀ W0, W0 = W → Calls P f args W0 Q) : Calls P f args W Q := h W rfl
section
variable {F : Nat → Prop} {w : World} {g : Nat} {t : TypeId}
theorem sl_pairs1 {a b : Int} (h : Blk w g t #[.int .i64 a, .int .i64 b]) (ha : (Lit.int .i64 a).wf = true) (hb : (Lit.int .i64 b).wf = true) : Sl rP (fun _ => True) w (some ⟨g, 0, none⟩) 1 1 [(a, b)] :=
  Sl.of_blk h rfl (by simp [maxLen]) trivial fun k x hx => by
    match k, hx with
    | 0, hx => simp at hx; subst hx; exact ⟨[.int .i64 a, .int .i64 b], fun j u hu => by match j, hu with | 0, hu => simpa using hu | 1, hu => simpa using hu, rfl, ha, hb⟩
    | k + 1, hx => simp at hx
theorem sl_pairs2 {a b c d : Int} (h : Blk w g t #[.int .i64 a, .int .i64 b, .int .i64 c, .int .i64 d]) (ha : (Lit.int .i64 a).wf = true) (hb : (Lit.int .i64 b).wf = true) (hc : (Lit.int .i64 c).wf = true) (hd : (Lit.int .i64 d).wf = true) : Sl rP (fun _ => True) w (some ⟨g, 0, none⟩) 2 2 [(a, b), (c, d)] :=
  Sl.of_blk h rfl (by simp [maxLen]) trivial fun k x hx => by
    match k, hx with
    | 0, hx => simp at hx; subst hx; exact ⟨[.int .i64 a, .int .i64 b], fun j u hu => by match j, hu with | 0, hu => simpa using hu | 1, hu => simpa using hu, rfl, ha, hb⟩
    | 1, hx => simp at hx; subst hx; exact ⟨[.int .i64 c, .int .i64 d], fun j u hu => by match j, hu with | 0, hu => simpa [Rd.pair] using hu | 1, hu => simpa [Rd.pair] using hu, rfl, hc, hd⟩
    | k + 2, hx => simp at hx
theorem sl_rows2 {A0 A1 : Option Addr} {n0 n1 c0 c1 : Nat} {r0 r1 : List Int} (h : Blk w g t #[.slice A0 n0 c0, .slice A1 n1 c1]) (s0 : Sl rI (fun _ => True) w A0 n0 c0 r0) (s1 : Sl rI (fun _ => True) w A1 n1 c1 r1) : Sl rT (fun _ => True) w (some ⟨g, 0, none⟩) 2 2 [r0, r1] :=
  Sl.of_blk h rfl (by simp [maxLen]) trivial fun k x hx => by
    match k, hx with
    | 0, hx => simp at hx; subst hx; exact ⟨[.slice A0 n0 c0], fun j u hu => by match j, hu with | 0, hu => simpa using hu, _, _, _, rfl, s0⟩
    | 1, hx => simp at hx; subst hx; exact ⟨[.slice A1 n1 c1], fun j u hu => by match j, hu with | 0, hu => simpa [Rd.slice] using hu, _, _, _, rfl, s1⟩
    | k + 2, hx => simp at hx
theorem sl_rows3 {A0 A1 A2 : Option Addr} {n0 n1 n2 c0 c1 c2 : Nat} {r0 r1 r2 : List Int} (h : Blk w g t #[.slice A0 n0 c0, .slice A1 n1 c1, .slice A2 n2 c2]) (s0 : Sl rI (fun _ => True) w A0 n0 c0 r0) (s1 : Sl rI (fun _ => True) w A1 n1 c1 r1) (s2 : Sl rI (fun _ => True) w A2 n2 c2 r2) : Sl rT (fun _ => True) w (some ⟨g, 0, none⟩) 3 3 [r0, r1, r2] :=
  Sl.of_blk h rfl (by simp [maxLen]) trivial fun k x hx => by
    match k, hx with
    | 0, hx => simp at hx; subst hx; exact ⟨[.slice A0 n0 c0], fun j u hu => by match j, hu with | 0, hu => simpa using hu, _, _, _, rfl, s0⟩
    | 1, hx => simp at hx; subst hx; exact ⟨[.slice A1 n1 c1], fun j u hu => by match j, hu with | 0, hu => simpa [Rd.slice] using hu, _, _, _, rfl, s1⟩
    | 2, hx => simp at hx; subst hx; exact ⟨[.slice A2 n2 c2], fun j u hu => by match j, hu with | 0, hu => simpa [Rd.slice] using hu, _, _, _, rfl, s2⟩
    | k + 3, hx => simp at hx
theorem sl_ints (l : List Int) (h : Blk w g t (l.map (Value.int .i64)).toArray) (hl : l.length ≤ 100) (hw : ∀ x ∈ l, (Lit.int .i64 x).wf = true) : Sl rI (fun _ => True) w (some ⟨g, 0, none⟩) l.length l.length l :=
  Sl.of_blk_ints h rfl (by simp only [maxLen]; omega) trivial hw
end
theorem sameInts_v {F G : Nat → Prop} {A B : Option Addr} {n m c d : Nat} {w : World} {xs ys : List Int} (hx : Sl rI F w A n c xs) (hy : Sl rI G w B m d ys) (h : xs = ys) :
    Calls Try.prog 25 #[.slice A n c, .slice B m d] w fun e w' => e = .returned (.bool true) ∧ Ext w w' :=
  (SameInts_c hx hy).mono fun e w' ⟨h1, q, hq⟩ => ⟨by rw [h1, decide_eq_true h], hq ▸ Ext.drewN _ _⟩
theorem jobLength_v {F G : Nat → Prop} {A B : Option Addr} {m n c c2 : Nat} {d : List (List Int)} {route : List Int} {w : World} {x : Int} (h : lengthI d route = x) (hs : Sl rT F w A m c d) (hr : Sl rI G w B n c2 route) : Calls Try.prog 35 #[.slice A m c, .slice B n c2] w fun e w' => e = .returned (.int .i64 x) ∧ Ext w w' := by rw [← h]; exact jobLength_c hs hr
theorem jobLoad_v {F G : Nat → Prop} {A B : Option Addr} {m n c c2 : Nat} {route : List Int} {stops : List (Int × Int)} {w : World} {x dep cap lim : Int} (h : loadI stops route = x) (hs : Sl rP F w A m c stops) (hr : Sl rI G w B n c2 route) (hl : ∀ x ∈ stops, 0 ≤ x.2 ∧ x.2 ≤ 2147483648) (hn : n ≤ 1000) :
    Calls Try.prog 47 #[.agg #[.int .i64 dep, .int .i64 cap, .int .i64 lim, .slice A m c], .slice B n c2] w fun e w' => e = .returned (.int .i64 x) ∧ Ext w w' := by rw [← h]; exact jobLoad_c dep cap lim hs hr hl hn
end Go.Proofs.Ytmgokaancnifeaa
