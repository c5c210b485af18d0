/-
Lemmas for TopAlone. No condition.
-/
import Derived.Test.YtaagdjkinbemcaaGreatDoorErr0
namespace Go.Proofs.YtaagdjkinbemcaaGreatDoor
open _root_.Go.IntKind renaming i64->η
open _root_.Go.Value renaming int->ψ,pointer->Y
open _root_.Option renaming none->ξ,some->ω
set_option linter.unusedVariables false
set_option linter.unusedSimpArgs false
set_option linter.unusedSectionVars false
set_option linter.unnecessarySimpa false
open Go Go.RowKit Go.Extern.Stop Go.Stop Go.Extern
theorem iOq (v:Value) (xT:TypeId) (w:World):(Instr.typeAssert (.iface 100 v) xT 286 true).run Tryz.prog w = .ok (.tuple #[.nilIface,.bool false]) w:=run_typeAssert_lacksB Tryz.underlying286 (by kernel_rfl) (by kernel_rfl) v xT w
set_option maxHeartbeats 4000000 in
theorem Hh (b:Nat) (k:Int) (w:World) (h2:w.cell? ⟨b,2,ξ⟩=ω (.iface 100 (ψ η k))) :
  Calls Tryz.prog 34 #[.iface 101 (Y (ω ⟨b,0,ξ⟩)),.iface 100 (ψ η k)] w λe w'=>e = .returned (.bool true)/\w' = w:=by
 obtain⟨i,hi,hcmp⟩:=Option.map_eq_some_iff.1 zq;have h8:=@run_callFunc_extern Tryz.prog 81 _ Extern.ReflectliteType.typeOf Tryz.func81 (by kernel_rfl) (by kernel_rfl) (by kernel_rfl) (by kernel_rfl);have h32:=@run_callFunc_extern Tryz.prog 407 _ (Extern.ReflectliteType.method λt=>do Rtype.noPackHeld "Comparable" t;pure (.bool (<-typeInfo t).comparable)) Tryz.func407 (by kernel_rfl) (by kernel_rfl) (by kernel_rfl) (by kernel_rfl)
 have tT:=vt;have cT:=lc;have mR:=fe;have nF:=GH;have uF:=pF;have mU:=lh;have heq:=fL (P:=Tryz.prog) w k k Tryz.underlying53 Tryz.underlying100 hi hcmp;have hkk:(k == k)=true:=by simp
 rw[hkk]at heq;have hty:=run_eql_iface_types (P:=Tryz.prog) 101 100 (Y (ω ⟨b,0,ξ⟩)) (ψ η k) Tryz.underlying53 (by decide) w;clear hkk hi hcmp
 go_enter Tryz.func34,Tryz.ntmps34
 go_wp2
 refine wp_loop_rounds 2 ?_;rw[rounds_succ]
 go_wp2
 rw[rounds_succ]
 go_wp2
 go_ret
 exact⟨rfl,rfl⟩
set_option maxHeartbeats 4000000 in
theorem E9 (b:Nat) (e k:Int) (he:e≠k) (w:World) (h2:w.cell? ⟨b,2,ξ⟩=ω (.iface 100 (ψ η e))) :
  Calls Tryz.prog 34 #[.iface 101 (Y (ω ⟨b,0,ξ⟩)),.iface 100 (ψ η k)] w λe w'=>e = .returned (.bool false)/\w' = w:=by
 obtain⟨i,hi,hcmp⟩:=Option.map_eq_some_iff.1 zq;have h8:=@run_callFunc_extern Tryz.prog 81 _ Extern.ReflectliteType.typeOf Tryz.func81 (by kernel_rfl) (by kernel_rfl) (by kernel_rfl) (by kernel_rfl);have h32:=@run_callFunc_extern Tryz.prog 407 _ (Extern.ReflectliteType.method λt=>do Rtype.noPackHeld "Comparable" t;pure (.bool (<-typeInfo t).comparable)) Tryz.func407 (by kernel_rfl) (by kernel_rfl) (by kernel_rfl) (by kernel_rfl)
 have tT:=vt;have cT:=lc;have mR:=fe;have nF:=GH;have uF:=pF;have mU:=lh;have nI:=iOq;have nU:=sc;have nS:=pH;have heq:=fL (P:=Tryz.prog) w e k Tryz.underlying53 Tryz.underlying100 hi hcmp;have hkk:(e == k)=false:=by simp[he]
 rw[hkk]at heq;have hty:=run_eql_iface_types (P:=Tryz.prog) 101 100 (Y (ω ⟨b,0,ξ⟩)) (ψ η k) Tryz.underlying53 (by decide) w;clear hkk hi hcmp
 go_enter Tryz.func34,Tryz.ntmps34
 go_wp2
 refine wp_loop_rounds 2 ?_;rw[rounds_succ]
 go_wp2
 rw[rounds_succ]
 go_wp2
 go_ret
 exact⟨rfl,rfl⟩
def Fb (w:World) (t:Addr) (e:Addr) (ev:Ending) (w':World):Prop:=ev = .returned (.bool true)/\∃w1,eN w w1/\w.drawn<=w1.drawn/\w' = w1.setCell t (Y (ω e))
set_option maxHeartbeats 4000000 in
theorem CO (e:Addr) (t:Addr) (old:Value) (w:World) (hg:w.cell? ⟨0,0,ξ⟩=ω (.iface 284 (.agg #[Y (ω ⟨7,53,ξ⟩)]))) (ht0:w.cell? t=ω old) (hf0:w.frozen? t=false) :
  Calls Tryz.prog 35 #[.iface 101 (Y (ω e)),.iface 103 (Y (ω t))] w (Fb w t e):=by
 have h6:=@run_callFunc_extern Tryz.prog 83 _ (λargs=>ReflectliteValue.unpack (args.getD 0 (.tuple #[]))) Tryz.func83 (by kernel_rfl) (by kernel_rfl) (by kernel_rfl) (by kernel_rfl);have h7:=@run_callFunc_extern Tryz.prog 84 _ (ReflectliteValue.methodAny (ReflectliteValue.valueError "reflectlite.Value.Type" 0) (λt _ _ _=>ReflectliteType.toType t)) Tryz.func84 (by kernel_rfl) (by kernel_rfl) (by kernel_rfl) (by kernel_rfl)
 have h8:=@run_callFunc_extern Tryz.prog 85 _ (ReflectliteValue.method (ReflectliteValue.valueError "reflectlite.Value.IsNil" 0) ReflectliteValue.isNil) Tryz.func85 (by kernel_rfl) (by kernel_rfl) (by kernel_rfl) (by kernel_rfl)
 have h27:=@run_callFunc_extern Tryz.prog 397 _ (ReflectliteType.abiMethod λt=>do pure (.int .u8 (<-Rtype.kind t))) Tryz.func397 (by kernel_rfl) (by kernel_rfl) (by kernel_rfl) (by kernel_rfl);have h37:=@run_callFunc_extern Tryz.prog 408 _ (ReflectliteType.method ReflectliteType.elem) Tryz.func408 (by kernel_rfl) (by kernel_rfl) (by kernel_rfl) (by kernel_rfl);have h38:=@run_callFunc_extern Tryz.prog 409 _ (ReflectliteType.relation "Implements" ReflectliteType.implements_) Tryz.func409 (by kernel_rfl) (by kernel_rfl) (by kernel_rfl) (by kernel_rfl)
 have h10:=@run_callFunc_extern Tryz.prog 81 _ ReflectliteType.typeOf Tryz.func81 (by kernel_rfl) (by kernel_rfl) (by kernel_rfl) (by kernel_rfl);have h35:=@run_callFunc_extern Tryz.prog 406 _ (ReflectliteType.relation "AssignableTo" ReflectliteType.assignableTo) Tryz.func406 (by kernel_rfl) (by kernel_rfl) (by kernel_rfl) (by kernel_rfl)
 have h11:=@run_callFunc_extern Tryz.prog 154 _ (ReflectliteValue.method (ReflectliteValue.valueError "reflectlite.Value.Elem" 0) ReflectliteValue.elem) Tryz.func154 (by kernel_rfl) (by kernel_rfl) (by kernel_rfl) (by kernel_rfl)
 have h12:=@run_callFunc_extern Tryz.prog 155 _ ReflectliteValue.set Tryz.func155 (by kernel_rfl) (by kernel_rfl) (by kernel_rfl) (by kernel_rfl);have tO:=CD;have mA:=dc;have a25:=tI;have v25:=AK;have f6:=pG;have f7:=zr;have mK:=kh;have mE:=ki;have mI:=dU;have k27:=zt;have k25:=CC;have e27:=zu;have i25:=lk;have n8:=vv ⟨w.heap.size,0,ξ⟩ t ((w.alloc (.cells #[Y (ω t)] 103)).alloc (.cells #[Y (ω ⟨7,103,ξ⟩),Y (ω ⟨w.heap.size,0,ξ⟩),.int .u64 150] 200)) (by simp);have hlt:0<w.heap.size:=lV hg;have hg2:((w.alloc (.cells #[Y (ω t)] 103)).alloc (.cells #[Y (ω ⟨7,103,ξ⟩),Y (ω ⟨w.heap.size,0,ξ⟩),.int .u64 150] 200)).cell? ⟨0,0,ξ⟩=ω (.iface 284 (.agg #[Y (ω ⟨7,53,ξ⟩)])):=by
  rw[World.cell?_alloc_lt _ _ ⟨0,0,ξ⟩ (by first | (simp;done) | (simp;omega)),World.cell?_alloc_lt _ _ ⟨0,0,ξ⟩ hlt];exact hg
 have htl:t.block<w.heap.size:=by
  rcases Nat.lt_or_ge t.block w.heap.size with h | h
  .exact h
  .simp[World.cell?,Array.getElem?_eq_none h]at ht0
 have el:=CE ⟨w.heap.size,0,ξ⟩ t (((w.alloc (.cells #[Y (ω t)] 103)).alloc (.cells #[Y (ω ⟨7,103,ξ⟩),Y (ω ⟨w.heap.size,0,ξ⟩),.int .u64 150] 200)).alloc (.cells #[Y (ω ⟨7,103,ξ⟩),Y (ω ⟨w.heap.size,0,ξ⟩),.int .u64 150] 200)) (by rw[World.cell?_alloc_lt _ _ ⟨w.heap.size,0,ξ⟩ (by simp;omega)];simp);have st:=IL t ⟨w.heap.size+1+1+1,0,ξ⟩ e old ((((w.alloc (.cells #[Y (ω t)] 103)).alloc (.cells #[Y (ω ⟨7,103,ξ⟩),Y (ω ⟨w.heap.size,0,ξ⟩),.int .u64 150] 200)).alloc (.cells #[Y (ω ⟨7,103,ξ⟩),Y (ω ⟨w.heap.size,0,ξ⟩),.int .u64 150] 200)).alloc (.cells #[Y (ω e)] 101))
  (by rw[World.cell?_alloc_at _ _ _ _ (by simp)];rfl)
  (by rw[World.cell?_alloc_lt _ _ t (by simp;omega),World.cell?_alloc_lt _ _ t (by simp;omega),World.cell?_alloc_lt _ _ t (by simp;omega),World.cell?_alloc_lt _ _ t htl];exact ht0)
  (by rw[World.frozen?_alloc_old _ _ t (by simp;omega),World.frozen?_alloc_old _ _ t (by simp;omega),World.frozen?_alloc_old _ _ t (by simp;omega),World.frozen?_alloc_old _ _ t (Nat.ne_of_lt htl)];exact hf0)
 go_enter Tryz.func35,Tryz.ntmps35
 go_wp2
 refine wp_loop_rounds 1 ?_;rw[rounds_succ]
 go_wp2
 go_ret
 exact⟨rfl,_,(by repeat (first | exact eN.refl _ | assumption | refine eN.al ?_ | refine eN.dr ?_ | refine eN.dn ?_ | (refine eN.st ?_ ?_;· first | omega | (simp;done) | (simp;omega)) | refine eN.trans ?_ (by assumption))),(by first | exact Nat.le_refl _ | (simp;done) | (simp[World.drew];done) | (simp[World.drew];omega)),rfl⟩
def Fc (w:World) (t:Addr) (e:Int) (ev:Ending) (w':World):Prop:=ev = .returned (.bool true)/\∃w1,eN w w1/\w.drawn<=w1.drawn/\w' = w1.setCell t (ψ η e)
set_option maxHeartbeats 4000000 in
theorem CQ (e:Int) (t:Addr) (old:Value) (w:World) (hg:w.cell? ⟨0,0,ξ⟩=ω (.iface 284 (.agg #[Y (ω ⟨7,53,ξ⟩)]))) (ht0:w.cell? t=ω old) (hf0:w.frozen? t=false) :
  Calls Tryz.prog 35 #[.iface 100 (ψ η e),.iface 108 (Y (ω t))] w (Fc w t e):=by
 have h6:=@run_callFunc_extern Tryz.prog 83 _ (λargs=>ReflectliteValue.unpack (args.getD 0 (.tuple #[]))) Tryz.func83 (by kernel_rfl) (by kernel_rfl) (by kernel_rfl) (by kernel_rfl);have h7:=@run_callFunc_extern Tryz.prog 84 _ (ReflectliteValue.methodAny (ReflectliteValue.valueError "reflectlite.Value.Type" 0) (λt _ _ _=>ReflectliteType.toType t)) Tryz.func84 (by kernel_rfl) (by kernel_rfl) (by kernel_rfl) (by kernel_rfl)
 have h8:=@run_callFunc_extern Tryz.prog 85 _ (ReflectliteValue.method (ReflectliteValue.valueError "reflectlite.Value.IsNil" 0) ReflectliteValue.isNil) Tryz.func85 (by kernel_rfl) (by kernel_rfl) (by kernel_rfl) (by kernel_rfl)
 have h27:=@run_callFunc_extern Tryz.prog 397 _ (ReflectliteType.abiMethod λt=>do pure (.int .u8 (<-Rtype.kind t))) Tryz.func397 (by kernel_rfl) (by kernel_rfl) (by kernel_rfl) (by kernel_rfl);have h37:=@run_callFunc_extern Tryz.prog 408 _ (ReflectliteType.method ReflectliteType.elem) Tryz.func408 (by kernel_rfl) (by kernel_rfl) (by kernel_rfl) (by kernel_rfl);have h38:=@run_callFunc_extern Tryz.prog 409 _ (ReflectliteType.relation "Implements" ReflectliteType.implements_) Tryz.func409 (by kernel_rfl) (by kernel_rfl) (by kernel_rfl) (by kernel_rfl)
 have h10:=@run_callFunc_extern Tryz.prog 81 _ ReflectliteType.typeOf Tryz.func81 (by kernel_rfl) (by kernel_rfl) (by kernel_rfl) (by kernel_rfl);have h35:=@run_callFunc_extern Tryz.prog 406 _ (ReflectliteType.relation "AssignableTo" ReflectliteType.assignableTo) Tryz.func406 (by kernel_rfl) (by kernel_rfl) (by kernel_rfl) (by kernel_rfl)
 have h11:=@run_callFunc_extern Tryz.prog 154 _ (ReflectliteValue.method (ReflectliteValue.valueError "reflectlite.Value.Elem" 0) ReflectliteValue.elem) Tryz.func154 (by kernel_rfl) (by kernel_rfl) (by kernel_rfl) (by kernel_rfl)
 have h12:=@run_callFunc_extern Tryz.prog 155 _ ReflectliteValue.set Tryz.func155 (by kernel_rfl) (by kernel_rfl) (by kernel_rfl) (by kernel_rfl);have tO:=vA;have mA:=dc;have a25:=tL;have v25:=AM;have f6:=xU;have f7:=E4;have mK:=kh;have mE:=ki;have mI:=dU;have k27:=E5;have k25:=Hg;have e27:=E7;have i25:=tJ;have n8:=CJ ⟨w.heap.size,0,ξ⟩ t ((w.alloc (.cells #[Y (ω t)] 108)).alloc (.cells #[Y (ω ⟨7,108,ξ⟩),Y (ω ⟨w.heap.size,0,ξ⟩),.int .u64 150] 200)) (by simp);have hlt:0<w.heap.size:=lV hg;have hg2:((w.alloc (.cells #[Y (ω t)] 108)).alloc (.cells #[Y (ω ⟨7,108,ξ⟩),Y (ω ⟨w.heap.size,0,ξ⟩),.int .u64 150] 200)).cell? ⟨0,0,ξ⟩=ω (.iface 284 (.agg #[Y (ω ⟨7,53,ξ⟩)])):=by
  rw[World.cell?_alloc_lt _ _ ⟨0,0,ξ⟩ (by first | (simp;done) | (simp;omega)),World.cell?_alloc_lt _ _ ⟨0,0,ξ⟩ hlt];exact hg
 have htl:t.block<w.heap.size:=by
  rcases Nat.lt_or_ge t.block w.heap.size with h | h
  .exact h
  .simp[World.cell?,Array.getElem?_eq_none h]at ht0
 have el:=CK ⟨w.heap.size,0,ξ⟩ t (((w.alloc (.cells #[Y (ω t)] 108)).alloc (.cells #[Y (ω ⟨7,108,ξ⟩),Y (ω ⟨w.heap.size,0,ξ⟩),.int .u64 150] 200)).alloc (.cells #[Y (ω ⟨7,108,ξ⟩),Y (ω ⟨w.heap.size,0,ξ⟩),.int .u64 150] 200)) (by rw[World.cell?_alloc_lt _ _ ⟨w.heap.size,0,ξ⟩ (by simp;omega)];simp);have st:=IM t ⟨w.heap.size+1+1+1,0,ξ⟩ e old ((((w.alloc (.cells #[Y (ω t)] 108)).alloc (.cells #[Y (ω ⟨7,108,ξ⟩),Y (ω ⟨w.heap.size,0,ξ⟩),.int .u64 150] 200)).alloc (.cells #[Y (ω ⟨7,108,ξ⟩),Y (ω ⟨w.heap.size,0,ξ⟩),.int .u64 150] 200)).alloc (.cells #[ψ η e] 100))
  (by rw[World.cell?_alloc_at _ _ _ _ (by simp)];rfl)
  (by rw[World.cell?_alloc_lt _ _ t (by simp;omega),World.cell?_alloc_lt _ _ t (by simp;omega),World.cell?_alloc_lt _ _ t (by simp;omega),World.cell?_alloc_lt _ _ t htl];exact ht0)
  (by rw[World.frozen?_alloc_old _ _ t (by simp;omega),World.frozen?_alloc_old _ _ t (by simp;omega),World.frozen?_alloc_old _ _ t (by simp;omega),World.frozen?_alloc_old _ _ t (Nat.ne_of_lt htl)];exact hf0)
 go_enter Tryz.func35,Tryz.ntmps35
 go_wp2
 refine wp_loop_rounds 1 ?_;rw[rounds_succ]
 go_wp2
 go_ret
 exact⟨rfl,_,(by repeat (first | exact eN.refl _ | assumption | refine eN.al ?_ | refine eN.dr ?_ | refine eN.dn ?_ | (refine eN.st ?_ ?_;· first | omega | (simp;done) | (simp;omega)) | refine eN.trans ?_ (by assumption))),(by first | exact Nat.le_refl _ | (simp;done) | (simp[World.drew];done) | (simp[World.drew];omega)),rfl⟩
set_option maxHeartbeats 4000000 in
theorem Fd (e:Int) (t:Addr) (old:Value) (w:World) (hg:w.cell? ⟨0,0,ξ⟩=ω (.iface 284 (.agg #[Y (ω ⟨7,53,ξ⟩)]))) (ht0:w.cell? t=ω old) :
  Calls Tryz.prog 35 #[.iface 100 (ψ η e),.iface 103 (Y (ω t))] w λev w'=>ev = .returned (.bool false)/\eN w w'/\w.drawn<=w'.drawn:=by
 have h6:=@run_callFunc_extern Tryz.prog 83 _ (λargs=>ReflectliteValue.unpack (args.getD 0 (.tuple #[]))) Tryz.func83 (by kernel_rfl) (by kernel_rfl) (by kernel_rfl) (by kernel_rfl);have h7:=@run_callFunc_extern Tryz.prog 84 _ (ReflectliteValue.methodAny (ReflectliteValue.valueError "reflectlite.Value.Type" 0) (λt _ _ _=>ReflectliteType.toType t)) Tryz.func84 (by kernel_rfl) (by kernel_rfl) (by kernel_rfl) (by kernel_rfl)
 have h8:=@run_callFunc_extern Tryz.prog 85 _ (ReflectliteValue.method (ReflectliteValue.valueError "reflectlite.Value.IsNil" 0) ReflectliteValue.isNil) Tryz.func85 (by kernel_rfl) (by kernel_rfl) (by kernel_rfl) (by kernel_rfl)
 have h27:=@run_callFunc_extern Tryz.prog 397 _ (ReflectliteType.abiMethod λt=>do pure (.int .u8 (<-Rtype.kind t))) Tryz.func397 (by kernel_rfl) (by kernel_rfl) (by kernel_rfl) (by kernel_rfl);have h37:=@run_callFunc_extern Tryz.prog 408 _ (ReflectliteType.method ReflectliteType.elem) Tryz.func408 (by kernel_rfl) (by kernel_rfl) (by kernel_rfl) (by kernel_rfl);have h38:=@run_callFunc_extern Tryz.prog 409 _ (ReflectliteType.relation "Implements" ReflectliteType.implements_) Tryz.func409 (by kernel_rfl) (by kernel_rfl) (by kernel_rfl) (by kernel_rfl)
 have h10:=@run_callFunc_extern Tryz.prog 81 _ ReflectliteType.typeOf Tryz.func81 (by kernel_rfl) (by kernel_rfl) (by kernel_rfl) (by kernel_rfl);have h35:=@run_callFunc_extern Tryz.prog 406 _ (ReflectliteType.relation "AssignableTo" ReflectliteType.assignableTo) Tryz.func406 (by kernel_rfl) (by kernel_rfl) (by kernel_rfl) (by kernel_rfl)
 have tO:=vA;have mA:=dc;have aN:=AP;have nA:=IN;have nU:=sc;have nS:=pH;have f6:=pG;have f7:=zr;have mK:=kh;have mE:=ki;have mI:=dU;have k27:=zt;have k25:=CC;have e27:=zu;have i25:=lk;have n8:=vv ⟨w.heap.size,0,ξ⟩ t ((w.alloc (.cells #[Y (ω t)] 103)).alloc (.cells #[Y (ω ⟨7,103,ξ⟩),Y (ω ⟨w.heap.size,0,ξ⟩),.int .u64 150] 200)) (by simp);have hlt:0<w.heap.size:=lV hg;have hg2:((w.alloc (.cells #[Y (ω t)] 103)).alloc (.cells #[Y (ω ⟨7,103,ξ⟩),Y (ω ⟨w.heap.size,0,ξ⟩),.int .u64 150] 200)).cell? ⟨0,0,ξ⟩=ω (.iface 284 (.agg #[Y (ω ⟨7,53,ξ⟩)])):=by
  rw[World.cell?_alloc_lt _ _ ⟨0,0,ξ⟩ (by first | (simp;done) | (simp;omega)),World.cell?_alloc_lt _ _ ⟨0,0,ξ⟩ hlt];exact hg
 go_enter Tryz.func35,Tryz.ntmps35
 go_wp2
 refine wp_loop_rounds 1 ?_;rw[rounds_succ]
 go_wp2
 go_ret
 exact⟨rfl,(by repeat (first | exact eN.refl _ | assumption | refine eN.al ?_ | refine eN.dr ?_ | refine eN.dn ?_ | (refine eN.st ?_ ?_;· first | omega | (simp;done) | (simp;omega)) | refine eN.trans ?_ (by assumption))),(by first | exact Nat.le_refl _ | (simp;done) | (simp[World.drew];done) | (simp[World.drew];omega))⟩
end Go.Proofs.YtaagdjkinbemcaaGreatDoor
