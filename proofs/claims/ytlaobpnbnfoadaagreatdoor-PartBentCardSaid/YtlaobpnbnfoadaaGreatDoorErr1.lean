/-
  errors.Is and errors.As by their contracts, at the errors that this program makes: a Fault round an Errno. Go's own text of both is walked; the model's entries for internal/reflectlite are closed facts at this program's types.
-/
import Derived.Test.YtlaobpnbnfoadaaGreatDoorErr0
namespace Go.Proofs.YtlaobpnbnfoadaaGreatDoor
set_option linter.unusedVariables false
set_option linter.unusedSimpArgs false
set_option linter.unusedSectionVars false
set_option linter.unnecessarySimpa false
open Go Go.RowKit Go.Extern.Stop Go.Stop Go.Extern

set_option maxHeartbeats 4000000 in
/-- errors.Is(a Fault round an Errno, that Errno). -/
theorem is_one (b : Nat) (k : Int) (w : World) (h2 : w.cell? ⟨b, 2, none⟩ = some (.iface 63 (.int .i64 k))) :
    Calls Tryz.prog 34 #[.iface 64 (.pointer (some ⟨b, 0, none⟩)), .iface 63 (.int .i64 k)] w fun e w' => e = .returned (.bool true) ∧ w' = w := by
  obtain ⟨i, hi, hcmp⟩ := Option.map_eq_some_iff.1 isCompE
  have h8 := @run_callFunc_extern Tryz.prog 62 _ Extern.ReflectliteType.typeOf Tryz.func62 (by kernel_rfl) (by kernel_rfl) (by kernel_rfl) (by kernel_rfl)
  have h32 := @run_callFunc_extern Tryz.prog 150 _ (Extern.ReflectliteType.method fun t => do Rtype.noPackHeld "Comparable" t; pure (.bool (← typeInfo t).comparable)) Tryz.func150 (by kernel_rfl) (by kernel_rfl) (by kernel_rfl) (by kernel_rfl)
  have tT := isTypeOf
  have cT := isComparable
  have mR := isMethodComparable
  have nF := noIsF
  have uF := hasUnwrapF
  have mU := methodUnwrap
  have heq := run_eql_iface_int (P := Tryz.prog) w k k Tryz.underlying30 Tryz.underlying63 hi hcmp
  have hkk : (k == k) = true := by simp
  rw [hkk] at heq
  have hty := run_eql_iface_types (P := Tryz.prog) 64 63 (.pointer (some ⟨b, 0, none⟩)) (.int .i64 k) Tryz.underlying30 (by decide) w
  clear hkk hi hcmp
  go_enter Tryz.func34, Tryz.ntmps34
  go_wp2
  refine wp_loop_rounds 2 ?_
  rw [rounds_succ]
  go_wp2
  rw [rounds_succ]
  go_wp2
  go_ret
  exact ⟨rfl, rfl⟩

/-- What errors.As does where the error's own type is the target's: the target is set, new blocks lie behind the heap. -/
def AsHitPF (w : World) (t : Addr) (e : Addr) (ev : Ending) (w' : World) : Prop := ev = .returned (.bool true) ∧ w'.cell? t = some (.pointer (some e)) ∧ Below t.block w w'
set_option maxHeartbeats 4000000 in
theorem as_hitPF (e : Addr) (t : Addr) (old : Value) (w : World) (hg : w.cell? ⟨0, 0, none⟩ = some (.iface 134 (.agg #[.pointer (some ⟨7, 30, none⟩)]))) (ht0 : w.cell? t = some old) (hf0 : w.frozen? t = false) :
    Calls Tryz.prog 35 #[.iface 64 (.pointer (some e)), .iface 66 (.pointer (some t))] w (AsHitPF w t e) := by
  have h6 := @run_callFunc_extern Tryz.prog 64 _ (fun args => ReflectliteValue.unpack (args.getD 0 (.tuple #[]))) Tryz.func64 (by kernel_rfl) (by kernel_rfl) (by kernel_rfl) (by kernel_rfl)
  have h7 := @run_callFunc_extern Tryz.prog 65 _ (ReflectliteValue.methodAny (ReflectliteValue.valueError "reflectlite.Value.Type" 0) (fun t _ _ _ => ReflectliteType.toType t)) Tryz.func65 (by kernel_rfl) (by kernel_rfl) (by kernel_rfl) (by kernel_rfl)
  have h8 := @run_callFunc_extern Tryz.prog 66 _ (ReflectliteValue.method (ReflectliteValue.valueError "reflectlite.Value.IsNil" 0) ReflectliteValue.isNil) Tryz.func66 (by kernel_rfl) (by kernel_rfl) (by kernel_rfl) (by kernel_rfl)
  have h27 := @run_callFunc_extern Tryz.prog 138 _ (ReflectliteType.abiMethod fun t => do pure (.int .u8 (← Rtype.kind t))) Tryz.func138 (by kernel_rfl) (by kernel_rfl) (by kernel_rfl) (by kernel_rfl)
  have h37 := @run_callFunc_extern Tryz.prog 151 _ (ReflectliteType.method ReflectliteType.elem) Tryz.func151 (by kernel_rfl) (by kernel_rfl) (by kernel_rfl) (by kernel_rfl)
  have h38 := @run_callFunc_extern Tryz.prog 152 _ (ReflectliteType.relation "Implements" ReflectliteType.implements_) Tryz.func152 (by kernel_rfl) (by kernel_rfl) (by kernel_rfl) (by kernel_rfl)
  have h10 := @run_callFunc_extern Tryz.prog 62 _ ReflectliteType.typeOf Tryz.func62 (by kernel_rfl) (by kernel_rfl) (by kernel_rfl) (by kernel_rfl)
  have h35 := @run_callFunc_extern Tryz.prog 149 _ (ReflectliteType.relation "AssignableTo" ReflectliteType.assignableTo) Tryz.func149 (by kernel_rfl) (by kernel_rfl) (by kernel_rfl) (by kernel_rfl)
  have h11 := @run_callFunc_extern Tryz.prog 82 _ (ReflectliteValue.method (ReflectliteValue.valueError "reflectlite.Value.Elem" 0) ReflectliteValue.elem) Tryz.func82 (by kernel_rfl) (by kernel_rfl) (by kernel_rfl) (by kernel_rfl)
  have h12 := @run_callFunc_extern Tryz.prog 83 _ ReflectliteValue.set Tryz.func83 (by kernel_rfl) (by kernel_rfl) (by kernel_rfl) (by kernel_rfl)
  have tO := typeOfPF
  have mA := methodAssignableTo
  have a25 := assignablePF
  have v25 := valueOfPF
  have f6 := valueOfPPF
  have f7 := typePPF
  have mK := methodKind
  have mE := methodElem
  have mI := methodImplements
  have k27 := kindPPF
  have k25 := kindPF
  have e27 := elemPPF
  have i25 := implementsPF
  have n8 := isNilPPF ⟨w.heap.size, 0, none⟩ t ((w.alloc (.cells #[.pointer (some t)] 66)).alloc (.cells #[.pointer (some ⟨7, 66, none⟩), .pointer (some ⟨w.heap.size, 0, none⟩), .int .u64 150] 113)) (by simp)
  have hlt : 0 < w.heap.size := cell_lt2 hg
  have hg2 : ((w.alloc (.cells #[.pointer (some t)] 66)).alloc (.cells #[.pointer (some ⟨7, 66, none⟩), .pointer (some ⟨w.heap.size, 0, none⟩), .int .u64 150] 113)).cell? ⟨0, 0, none⟩ = some (.iface 134 (.agg #[.pointer (some ⟨7, 30, none⟩)])) := by
    rw [World.cell?_alloc_lt _ _ ⟨0, 0, none⟩ (by first | (simp; done) | (simp; omega)), World.cell?_alloc_lt _ _ ⟨0, 0, none⟩ hlt]; exact hg
  have htl : t.block < w.heap.size := by
    rcases Nat.lt_or_ge t.block w.heap.size with h | h
    · exact h
    · simp [World.cell?, Array.getElem?_eq_none h] at ht0
  have el := elemVPPF ⟨w.heap.size, 0, none⟩ t (((w.alloc (.cells #[.pointer (some t)] 66)).alloc (.cells #[.pointer (some ⟨7, 66, none⟩), .pointer (some ⟨w.heap.size, 0, none⟩), .int .u64 150] 113)).alloc (.cells #[.pointer (some ⟨7, 66, none⟩), .pointer (some ⟨w.heap.size, 0, none⟩), .int .u64 150] 113)) (by rw [World.cell?_alloc_lt _ _ ⟨w.heap.size, 0, none⟩ (by simp; omega)]; simp)
  have st := setPF t ⟨w.heap.size + 1 + 1 + 1, 0, none⟩ e old ((((w.alloc (.cells #[.pointer (some t)] 66)).alloc (.cells #[.pointer (some ⟨7, 66, none⟩), .pointer (some ⟨w.heap.size, 0, none⟩), .int .u64 150] 113)).alloc (.cells #[.pointer (some ⟨7, 66, none⟩), .pointer (some ⟨w.heap.size, 0, none⟩), .int .u64 150] 113)).alloc (.cells #[.pointer (some e)] 64))
    (by rw [World.cell?_alloc_at _ _ _ _ (by simp)]; rfl)
    (by rw [World.cell?_alloc_lt _ _ t (by simp; omega), World.cell?_alloc_lt _ _ t (by simp; omega), World.cell?_alloc_lt _ _ t (by simp; omega), World.cell?_alloc_lt _ _ t htl]; exact ht0)
    (by rw [World.frozen?_alloc_old _ _ t (by simp; omega), World.frozen?_alloc_old _ _ t (by simp; omega), World.frozen?_alloc_old _ _ t (by simp; omega), World.frozen?_alloc_old _ _ t (Nat.ne_of_lt htl)]; exact hf0)
  go_enter Tryz.func35, Tryz.ntmps35
  go_wp2
  refine wp_loop_rounds 1 ?_
  rw [rounds_succ]
  go_wp2
  go_ret
  exact ⟨rfl, as_end (by repeat (first | exact Ext.refl _ | assumption | refine Ext.al ?_ | refine Ext.dr ?_ | refine Ext.dn ?_ | (refine Ext.st ?_ ?_; · first | omega | (simp; done) | (simp; omega)) | refine Ext.trans ?_ (by assumption))) ht0⟩
/-- What errors.As does where the error's own type is the target's: the target is set, new blocks lie behind the heap. -/
def AsHitEN (w : World) (t : Addr) (e : Int) (ev : Ending) (w' : World) : Prop := ev = .returned (.bool true) ∧ w'.cell? t = some (.int .i64 e) ∧ Below t.block w w'
set_option maxHeartbeats 4000000 in
theorem as_hitEN (e : Int) (t : Addr) (old : Value) (w : World) (hg : w.cell? ⟨0, 0, none⟩ = some (.iface 134 (.agg #[.pointer (some ⟨7, 30, none⟩)]))) (ht0 : w.cell? t = some old) (hf0 : w.frozen? t = false) :
    Calls Tryz.prog 35 #[.iface 63 (.int .i64 e), .iface 71 (.pointer (some t))] w (AsHitEN w t e) := by
  have h6 := @run_callFunc_extern Tryz.prog 64 _ (fun args => ReflectliteValue.unpack (args.getD 0 (.tuple #[]))) Tryz.func64 (by kernel_rfl) (by kernel_rfl) (by kernel_rfl) (by kernel_rfl)
  have h7 := @run_callFunc_extern Tryz.prog 65 _ (ReflectliteValue.methodAny (ReflectliteValue.valueError "reflectlite.Value.Type" 0) (fun t _ _ _ => ReflectliteType.toType t)) Tryz.func65 (by kernel_rfl) (by kernel_rfl) (by kernel_rfl) (by kernel_rfl)
  have h8 := @run_callFunc_extern Tryz.prog 66 _ (ReflectliteValue.method (ReflectliteValue.valueError "reflectlite.Value.IsNil" 0) ReflectliteValue.isNil) Tryz.func66 (by kernel_rfl) (by kernel_rfl) (by kernel_rfl) (by kernel_rfl)
  have h27 := @run_callFunc_extern Tryz.prog 138 _ (ReflectliteType.abiMethod fun t => do pure (.int .u8 (← Rtype.kind t))) Tryz.func138 (by kernel_rfl) (by kernel_rfl) (by kernel_rfl) (by kernel_rfl)
  have h37 := @run_callFunc_extern Tryz.prog 151 _ (ReflectliteType.method ReflectliteType.elem) Tryz.func151 (by kernel_rfl) (by kernel_rfl) (by kernel_rfl) (by kernel_rfl)
  have h38 := @run_callFunc_extern Tryz.prog 152 _ (ReflectliteType.relation "Implements" ReflectliteType.implements_) Tryz.func152 (by kernel_rfl) (by kernel_rfl) (by kernel_rfl) (by kernel_rfl)
  have h10 := @run_callFunc_extern Tryz.prog 62 _ ReflectliteType.typeOf Tryz.func62 (by kernel_rfl) (by kernel_rfl) (by kernel_rfl) (by kernel_rfl)
  have h35 := @run_callFunc_extern Tryz.prog 149 _ (ReflectliteType.relation "AssignableTo" ReflectliteType.assignableTo) Tryz.func149 (by kernel_rfl) (by kernel_rfl) (by kernel_rfl) (by kernel_rfl)
  have h11 := @run_callFunc_extern Tryz.prog 82 _ (ReflectliteValue.method (ReflectliteValue.valueError "reflectlite.Value.Elem" 0) ReflectliteValue.elem) Tryz.func82 (by kernel_rfl) (by kernel_rfl) (by kernel_rfl) (by kernel_rfl)
  have h12 := @run_callFunc_extern Tryz.prog 83 _ ReflectliteValue.set Tryz.func83 (by kernel_rfl) (by kernel_rfl) (by kernel_rfl) (by kernel_rfl)
  have tO := typeOfEN
  have mA := methodAssignableTo
  have a25 := assignableEN
  have v25 := valueOfEN
  have f6 := valueOfPEN
  have f7 := typePEN
  have mK := methodKind
  have mE := methodElem
  have mI := methodImplements
  have k27 := kindPEN
  have k25 := kindEN
  have e27 := elemPEN
  have i25 := implementsEN
  have n8 := isNilPEN ⟨w.heap.size, 0, none⟩ t ((w.alloc (.cells #[.pointer (some t)] 71)).alloc (.cells #[.pointer (some ⟨7, 71, none⟩), .pointer (some ⟨w.heap.size, 0, none⟩), .int .u64 150] 113)) (by simp)
  have hlt : 0 < w.heap.size := cell_lt2 hg
  have hg2 : ((w.alloc (.cells #[.pointer (some t)] 71)).alloc (.cells #[.pointer (some ⟨7, 71, none⟩), .pointer (some ⟨w.heap.size, 0, none⟩), .int .u64 150] 113)).cell? ⟨0, 0, none⟩ = some (.iface 134 (.agg #[.pointer (some ⟨7, 30, none⟩)])) := by
    rw [World.cell?_alloc_lt _ _ ⟨0, 0, none⟩ (by first | (simp; done) | (simp; omega)), World.cell?_alloc_lt _ _ ⟨0, 0, none⟩ hlt]; exact hg
  have htl : t.block < w.heap.size := by
    rcases Nat.lt_or_ge t.block w.heap.size with h | h
    · exact h
    · simp [World.cell?, Array.getElem?_eq_none h] at ht0
  have el := elemVPEN ⟨w.heap.size, 0, none⟩ t (((w.alloc (.cells #[.pointer (some t)] 71)).alloc (.cells #[.pointer (some ⟨7, 71, none⟩), .pointer (some ⟨w.heap.size, 0, none⟩), .int .u64 150] 113)).alloc (.cells #[.pointer (some ⟨7, 71, none⟩), .pointer (some ⟨w.heap.size, 0, none⟩), .int .u64 150] 113)) (by rw [World.cell?_alloc_lt _ _ ⟨w.heap.size, 0, none⟩ (by simp; omega)]; simp)
  have st := setEN t ⟨w.heap.size + 1 + 1 + 1, 0, none⟩ e old ((((w.alloc (.cells #[.pointer (some t)] 71)).alloc (.cells #[.pointer (some ⟨7, 71, none⟩), .pointer (some ⟨w.heap.size, 0, none⟩), .int .u64 150] 113)).alloc (.cells #[.pointer (some ⟨7, 71, none⟩), .pointer (some ⟨w.heap.size, 0, none⟩), .int .u64 150] 113)).alloc (.cells #[.int .i64 e] 63))
    (by rw [World.cell?_alloc_at _ _ _ _ (by simp)]; rfl)
    (by rw [World.cell?_alloc_lt _ _ t (by simp; omega), World.cell?_alloc_lt _ _ t (by simp; omega), World.cell?_alloc_lt _ _ t (by simp; omega), World.cell?_alloc_lt _ _ t htl]; exact ht0)
    (by rw [World.frozen?_alloc_old _ _ t (by simp; omega), World.frozen?_alloc_old _ _ t (by simp; omega), World.frozen?_alloc_old _ _ t (by simp; omega), World.frozen?_alloc_old _ _ t (Nat.ne_of_lt htl)]; exact hf0)
  go_enter Tryz.func35, Tryz.ntmps35
  go_wp2
  refine wp_loop_rounds 1 ?_
  rw [rounds_succ]
  go_wp2
  go_ret
  exact ⟨rfl, as_end (by repeat (first | exact Ext.refl _ | assumption | refine Ext.al ?_ | refine Ext.dr ?_ | refine Ext.dn ?_ | (refine Ext.st ?_ ?_; · first | omega | (simp; done) | (simp; omega)) | refine Ext.trans ?_ (by assumption))) ht0⟩
set_option maxHeartbeats 4000000 in
/-- errors.As(an Errno, a Fault's variable): false. -/
theorem as_miss (e : Int) (t : Addr) (old : Value) (w : World) (hg : w.cell? ⟨0, 0, none⟩ = some (.iface 134 (.agg #[.pointer (some ⟨7, 30, none⟩)]))) (ht0 : w.cell? t = some old) :
    Calls Tryz.prog 35 #[.iface 63 (.int .i64 e), .iface 66 (.pointer (some t))] w fun ev w' => ev = .returned (.bool false) ∧ Ext w w' := by
  have h6 := @run_callFunc_extern Tryz.prog 64 _ (fun args => ReflectliteValue.unpack (args.getD 0 (.tuple #[]))) Tryz.func64 (by kernel_rfl) (by kernel_rfl) (by kernel_rfl) (by kernel_rfl)
  have h7 := @run_callFunc_extern Tryz.prog 65 _ (ReflectliteValue.methodAny (ReflectliteValue.valueError "reflectlite.Value.Type" 0) (fun t _ _ _ => ReflectliteType.toType t)) Tryz.func65 (by kernel_rfl) (by kernel_rfl) (by kernel_rfl) (by kernel_rfl)
  have h8 := @run_callFunc_extern Tryz.prog 66 _ (ReflectliteValue.method (ReflectliteValue.valueError "reflectlite.Value.IsNil" 0) ReflectliteValue.isNil) Tryz.func66 (by kernel_rfl) (by kernel_rfl) (by kernel_rfl) (by kernel_rfl)
  have h27 := @run_callFunc_extern Tryz.prog 138 _ (ReflectliteType.abiMethod fun t => do pure (.int .u8 (← Rtype.kind t))) Tryz.func138 (by kernel_rfl) (by kernel_rfl) (by kernel_rfl) (by kernel_rfl)
  have h37 := @run_callFunc_extern Tryz.prog 151 _ (ReflectliteType.method ReflectliteType.elem) Tryz.func151 (by kernel_rfl) (by kernel_rfl) (by kernel_rfl) (by kernel_rfl)
  have h38 := @run_callFunc_extern Tryz.prog 152 _ (ReflectliteType.relation "Implements" ReflectliteType.implements_) Tryz.func152 (by kernel_rfl) (by kernel_rfl) (by kernel_rfl) (by kernel_rfl)
  have h10 := @run_callFunc_extern Tryz.prog 62 _ ReflectliteType.typeOf Tryz.func62 (by kernel_rfl) (by kernel_rfl) (by kernel_rfl) (by kernel_rfl)
  have h35 := @run_callFunc_extern Tryz.prog 149 _ (ReflectliteType.relation "AssignableTo" ReflectliteType.assignableTo) Tryz.func149 (by kernel_rfl) (by kernel_rfl) (by kernel_rfl) (by kernel_rfl)
  have tO := typeOfEN
  have mA := methodAssignableTo
  have aN := assignNot
  have nA := noAsE
  have nU := noUnwrapE
  have nS := noUnwrapsE
  have f6 := valueOfPPF
  have f7 := typePPF
  have mK := methodKind
  have mE := methodElem
  have mI := methodImplements
  have k27 := kindPPF
  have k25 := kindPF
  have e27 := elemPPF
  have i25 := implementsPF
  have n8 := isNilPPF ⟨w.heap.size, 0, none⟩ t ((w.alloc (.cells #[.pointer (some t)] 66)).alloc (.cells #[.pointer (some ⟨7, 66, none⟩), .pointer (some ⟨w.heap.size, 0, none⟩), .int .u64 150] 113)) (by simp)
  have hlt : 0 < w.heap.size := cell_lt2 hg
  have hg2 : ((w.alloc (.cells #[.pointer (some t)] 66)).alloc (.cells #[.pointer (some ⟨7, 66, none⟩), .pointer (some ⟨w.heap.size, 0, none⟩), .int .u64 150] 113)).cell? ⟨0, 0, none⟩ = some (.iface 134 (.agg #[.pointer (some ⟨7, 30, none⟩)])) := by
    rw [World.cell?_alloc_lt _ _ ⟨0, 0, none⟩ (by first | (simp; done) | (simp; omega)), World.cell?_alloc_lt _ _ ⟨0, 0, none⟩ hlt]; exact hg
  go_enter Tryz.func35, Tryz.ntmps35
  go_wp2
  refine wp_loop_rounds 1 ?_
  rw [rounds_succ]
  go_wp2
  go_ret
  exact ⟨rfl, (by repeat (first | exact Ext.refl _ | assumption | refine Ext.al ?_ | refine Ext.dr ?_ | refine Ext.dn ?_ | (refine Ext.st ?_ ?_; · first | omega | (simp; done) | (simp; omega)) | refine Ext.trans ?_ (by assumption)))⟩
end Go.Proofs.YtlaobpnbnfoadaaGreatDoor
