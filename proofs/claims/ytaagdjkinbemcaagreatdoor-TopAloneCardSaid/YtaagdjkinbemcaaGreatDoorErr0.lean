/-
Lemmas for TopAlone. No condition.
-/
import Derived.Test.YtaagdjkinbemcaaGreatDoorPh
import Derived.LaidEql
import Derived.Stop.Asserts
import Derived.RowKitTokens
namespace Go.Proofs.YtaagdjkinbemcaaGreatDoor
open _root_.Go.Value renaming pointer->Y
open _root_.Option renaming none->ξ,some->ω
set_option linter.unusedVariables false
set_option linter.unusedSimpArgs false
set_option linter.unusedSectionVars false
set_option linter.unnecessarySimpa false
open Go Go.RowKit Go.Extern.Stop Go.Stop Go.Extern
section
variable {P:Program}(w:World)
theorem iP (d:Nat){ti tn:TypeId}{ms:Array (String×TypeId)}{i:TypeInfo}{k:IntKind}(a b:Int)
  (hi:P.underlying ti=ω (.interface ms)) (hn:P.underlying tn=ω (.int k)) (hinfo:P.info? tn=ω i) (hcomp:i.comparable=true) :
  (Op.equalIn (d+2) ti (.iface tn (.int k a)) (.iface tn (.int k b))).run P w = .ok (a == b) w:=by
 simp[Op.equalIn,run_underlying hi,run_underlying hn,typeInfo,hinfo,hcomp]
theorem fL {ti tn:TypeId}{ms:Array (String×TypeId)}{i:TypeInfo}{k:IntKind}(a b:Int)
  (hi:P.underlying ti=ω (.interface ms)) (hn:P.underlying tn=ω (.int k)) (hinfo:P.info? tn=ω i) (hcomp:i.comparable=true) :
  (binOp .eql ti (.iface tn (.int k a)) (.iface tn (.int k b))).run P w = .ok (.bool (a == b)) w:=by
 simp only[binOp];simp[Op.equal,Op.maxDepth,iP w 9998 a b hi hn hinfo hcomp]
end
theorem vt (v:Value) (w:World):(Extern.ReflectliteType.typeOf #[.iface 100 v]).run Tryz.prog w = .ok (.iface 284 (.agg #[Y (ω ⟨7,100,ξ⟩)])) w:=by kernel_rfl
theorem lc (w:World):((Extern.ReflectliteType.method λt=>do Rtype.noPackHeld "Comparable" t;Functor.map (λa=>Value.bool a.comparable) (typeInfo t)) #[.agg #[Y (ω ⟨7,100,ξ⟩)]]).run Tryz.prog w = .ok (.bool true) w:=by kernel_rfl
theorem fe (v:Value) (w:World):(Go.method 647 284 v "Comparable").run Tryz.prog w = .ok (407,v) w:=by kernel_rfl
theorem zq:(Tryz.prog.info? 100).map (·.comparable)=ω true:=by kernel_rfl
theorem GH (v:Value) (xT:TypeId) (w:World):(Instr.typeAssert (.iface 101 v) xT 286 true).run Tryz.prog w = .ok (.tuple #[.nilIface,.bool false]) w:=run_typeAssert_lacksB Tryz.underlying286 (by kernel_rfl) (by kernel_rfl) v xT w
theorem pF (v:Value) (xT:TypeId) (w:World):(Instr.typeAssert (.iface 101 v) xT 289 true).run Tryz.prog w = .ok (.tuple #[.iface 101 v,.bool true]) w:=run_typeAssert_hasB Tryz.underlying289 (by kernel_rfl) v xT w
theorem lh (v:Value) (w:World):(Go.method 647 101 v "Unwrap").run Tryz.prog w = .ok (401,v) w:=by kernel_rfl
theorem pG (t:Addr) (w:World):(ReflectliteValue.unpack (.iface 103 (Y (ω t)))).run Tryz.prog w
  = .ok (.agg #[Y (ω ⟨7,103,ξ⟩),Y (ω ⟨w.heap.size,0,ξ⟩),.int .u64 150]) (w.alloc (.cells #[Y (ω t)] 103)):=by kernel_rfl
theorem zr (a:Addr) (w:World):(ReflectliteValue.methodAny (ReflectliteValue.valueError "reflectlite.Value.Type" 0) (λt _ _ _=>ReflectliteType.toType t) #[.agg #[Y (ω ⟨7,103,ξ⟩),Y (ω a),.int .u64 150]]).run Tryz.prog w
  = .ok (.iface 284 (.agg #[Y (ω ⟨7,103,ξ⟩)])) w:=by kernel_rfl
theorem zt (w:World):((ReflectliteType.abiMethod λt=>Functor.map (λa:Nat=>Value.int IntKind.u8 (a:Int)) (Rtype.kind t)) #[Y (ω ⟨7,103,ξ⟩)]).run Tryz.prog w = .ok (.int .u8 22) w:=by kernel_rfl
theorem CC (w:World):((ReflectliteType.abiMethod λt=>Functor.map (λa:Nat=>Value.int IntKind.u8 (a:Int)) (Rtype.kind t)) #[Y (ω ⟨7,101,ξ⟩)]).run Tryz.prog w = .ok (.int .u8 22) w:=by kernel_rfl
theorem xU (t:Addr) (w:World):(ReflectliteValue.unpack (.iface 108 (Y (ω t)))).run Tryz.prog w
  = .ok (.agg #[Y (ω ⟨7,108,ξ⟩),Y (ω ⟨w.heap.size,0,ξ⟩),.int .u64 150]) (w.alloc (.cells #[Y (ω t)] 108)):=by kernel_rfl
theorem E4 (a:Addr) (w:World):(ReflectliteValue.methodAny (ReflectliteValue.valueError "reflectlite.Value.Type" 0) (λt _ _ _=>ReflectliteType.toType t) #[.agg #[Y (ω ⟨7,108,ξ⟩),Y (ω a),.int .u64 150]]).run Tryz.prog w
  = .ok (.iface 284 (.agg #[Y (ω ⟨7,108,ξ⟩)])) w:=by kernel_rfl
theorem E5 (w:World):((ReflectliteType.abiMethod λt=>Functor.map (λa:Nat=>Value.int IntKind.u8 (a:Int)) (Rtype.kind t)) #[Y (ω ⟨7,108,ξ⟩)]).run Tryz.prog w = .ok (.int .u8 22) w:=by kernel_rfl
theorem Hg (w:World):((ReflectliteType.abiMethod λt=>Functor.map (λa:Nat=>Value.int IntKind.u8 (a:Int)) (Rtype.kind t)) #[Y (ω ⟨7,100,ξ⟩)]).run Tryz.prog w = .ok (.int .u8 2) w:=by kernel_rfl
theorem kh (h:Value) (w:World):(Go.method 647 284 (.agg #[h]) "Kind").run Tryz.prog w = .ok (397,h) w:=by kernel_rfl
theorem ki (h:Value) (w:World):(Go.method 647 284 (.agg #[h]) "Elem").run Tryz.prog w = .ok (408,.agg #[h]) w:=by kernel_rfl
theorem dU (h:Value) (w:World):(Go.method 647 284 (.agg #[h]) "Implements").run Tryz.prog w = .ok (409,.agg #[h]) w:=by kernel_rfl
theorem dc (h:Value) (w:World):(Go.method 647 284 (.agg #[h]) "AssignableTo").run Tryz.prog w = .ok (406,.agg #[h]) w:=by kernel_rfl
theorem J9 (z:Sem Value) (f:TypeId->Addr->Nat->Nat->Sem Value) (v:Value) :
  ReflectliteValue.method z f #[v]=(do match <-ReflectliteValue.parts v with | none=>z | some (t,a,fl)=>f t a fl (fl % 32)):=rfl
theorem Ls (v x:Value):ReflectliteValue.set #[v,x]=(do
  let (ω (dst,a,fl),ω (src,b,_)):=(<-ReflectliteValue.parts v,<-ReflectliteValue.parts x)
   | unsupported (.noEntry "extern/(internal/reflectlite.Value).Set.zeroValue")
  if fl / ReflectliteValue.flagAddr % 2 == 0 then unsupported (.noEntry "extern/(internal/reflectlite.Value).Set.unaddressable")
  let val <-loadVar src b
  if <-Rtype.directlyAssignable dst src then storeVar dst a val
  else if <-Rtype.implements dst src then
   if(<-Rtype.kind src) == 20 then
    match val with
    | .nilIface=>unsupported (.noEntry "extern/reflectlite: a nil value of one interface type handed on as a value of another")
    | _=>storeVar dst a val
   else storeVar dst a (.iface src val)
  else panicString ("reflectlite.Set: value of type " ++ (<-Rtype.spelt src) ++ " is not assignable to type " ++ (<-Rtype.spelt dst))
  pure (.tuple #[])):=rfl
theorem vu (a:Addr) (w:World):(ReflectliteValue.parts (.agg #[Y (ω ⟨7,103,ξ⟩),Y (ω a),.int .u64 150])).run Tryz.prog w = .ok (ω (103,a,150)) w:=by kernel_rfl
theorem vv (a p:Addr) (W:World) (ha:W.cell? a=ω (Y (ω p))) :
  (ReflectliteValue.method (ReflectliteValue.valueError "reflectlite.Value.IsNil" 0) ReflectliteValue.isNil #[.agg #[Y (ω ⟨7,103,ξ⟩),Y (ω a),.int .u64 150]]).run Tryz.prog W = .ok (.bool false) W:=by
 rw[J9];simp only[Sem.run_bind,vu,Result.andThen];simp[ReflectliteValue.isNil,loadVar,isAgg,underlying,Tryz.underlying103,ha,Result.andThen]
theorem zu (w:World):(ReflectliteType.method ReflectliteType.elem #[.agg #[Y (ω ⟨7,103,ξ⟩)]]).run Tryz.prog w = .ok (.iface 284 (.agg #[Y (ω ⟨7,101,ξ⟩)])) w:=by kernel_rfl
theorem lk (w:World):(ReflectliteType.relation "Implements" ReflectliteType.implements_ #[.agg #[Y (ω ⟨7,101,ξ⟩)],.iface 284 (.agg #[Y (ω ⟨7,53,ξ⟩)])]).run Tryz.prog w = .ok (.bool true) w:=by kernel_rfl
theorem CD (v:Value) (w:World):(ReflectliteType.typeOf #[.iface 101 v]).run Tryz.prog w = .ok (.iface 284 (.agg #[Y (ω ⟨7,101,ξ⟩)])) w:=by kernel_rfl
theorem tI (w:World):(ReflectliteType.relation "AssignableTo" ReflectliteType.assignableTo #[.agg #[Y (ω ⟨7,101,ξ⟩)],.iface 284 (.agg #[Y (ω ⟨7,101,ξ⟩)])]).run Tryz.prog w = .ok (.bool true) w:=by kernel_rfl
theorem AK (e:Addr) (w:World):(ReflectliteValue.unpack (.iface 101 (Y (ω e)))).run Tryz.prog w
  = .ok (.agg #[Y (ω ⟨7,101,ξ⟩),Y (ω ⟨w.heap.size,0,ξ⟩),.int .u64 150]) (w.alloc (.cells #[Y (ω e)] 101)):=by kernel_rfl
theorem AL (w:World):(Rtype.elem? 103).run Tryz.prog w = .ok (ω 101) w:=by kernel_rfl
theorem Km (p:Addr) (w:World):(ReflectliteValue.mk 101 p ReflectliteValue.flagAddr).run Tryz.prog w = .ok (.agg #[Y (ω ⟨7,101,ξ⟩),Y (ω p),.int .u64 406]) w:=by kernel_rfl
theorem CE (a p:Addr) (W:World) (ha:W.cell? a=ω (Y (ω p))) :
  (ReflectliteValue.method (ReflectliteValue.valueError "reflectlite.Value.Elem" 0) ReflectliteValue.elem #[.agg #[Y (ω ⟨7,103,ξ⟩),Y (ω a),.int .u64 150]]).run Tryz.prog W
   = .ok (.agg #[Y (ω ⟨7,101,ξ⟩),Y (ω p),.int .u64 406]) W:=by
 rw[J9];simp only[Sem.run_bind,vu,Result.andThen];simp[ReflectliteValue.elem,loadVar,isAgg,underlying,Tryz.underlying103,ha,Result.andThen,AL,Km]
theorem CG (a:Addr) (w:World):(ReflectliteValue.parts (.agg #[Y (ω ⟨7,101,ξ⟩),Y (ω a),.int .u64 406])).run Tryz.prog w = .ok (ω (101,a,406)) w:=by kernel_rfl
theorem E6 (a:Addr) (w:World):(ReflectliteValue.parts (.agg #[Y (ω ⟨7,101,ξ⟩),Y (ω a),.int .u64 150])).run Tryz.prog w = .ok (ω (101,a,150)) w:=by kernel_rfl
theorem CH (w:World):(Rtype.directlyAssignable 101 101).run Tryz.prog w = .ok true w:=by kernel_rfl
theorem IL (ta b:Addr) (e:Addr) (old:Value) (W:World) (hb:W.cell? b=ω (Y (ω e))) (ht:W.cell? ta=ω old) (hf:W.frozen? ta=false) :
  (ReflectliteValue.set #[.agg #[Y (ω ⟨7,101,ξ⟩),Y (ω ta),.int .u64 406],.agg #[Y (ω ⟨7,101,ξ⟩),Y (ω b),.int .u64 150]]).run Tryz.prog W
   = .ok (.tuple #[]) (W.setCell ta (Y (ω e))):=by
 rw[Ls];simp only[Sem.run_bind,CG,E6,Result.andThen];simp[ReflectliteValue.flagAddr,loadVar,isAgg,underlying,Tryz.underlying101,hb,Result.andThen,CH,storeVar,Value.cells,storeCells,Addr.add];rw[run_store Tryz.prog W ta _ _ (by rfl)];simp[ht,hf]
theorem vw (a:Addr) (w:World):(ReflectliteValue.parts (.agg #[Y (ω ⟨7,108,ξ⟩),Y (ω a),.int .u64 150])).run Tryz.prog w = .ok (ω (108,a,150)) w:=by kernel_rfl
theorem CJ (a p:Addr) (W:World) (ha:W.cell? a=ω (Y (ω p))) :
  (ReflectliteValue.method (ReflectliteValue.valueError "reflectlite.Value.IsNil" 0) ReflectliteValue.isNil #[.agg #[Y (ω ⟨7,108,ξ⟩),Y (ω a),.int .u64 150]]).run Tryz.prog W = .ok (.bool false) W:=by
 rw[J9];simp only[Sem.run_bind,vw,Result.andThen];simp[ReflectliteValue.isNil,loadVar,isAgg,underlying,Tryz.underlying108,ha,Result.andThen]
theorem E7 (w:World):(ReflectliteType.method ReflectliteType.elem #[.agg #[Y (ω ⟨7,108,ξ⟩)]]).run Tryz.prog w = .ok (.iface 284 (.agg #[Y (ω ⟨7,100,ξ⟩)])) w:=by kernel_rfl
theorem tJ (w:World):(ReflectliteType.relation "Implements" ReflectliteType.implements_ #[.agg #[Y (ω ⟨7,100,ξ⟩)],.iface 284 (.agg #[Y (ω ⟨7,53,ξ⟩)])]).run Tryz.prog w = .ok (.bool true) w:=by kernel_rfl
theorem vA (v:Value) (w:World):(ReflectliteType.typeOf #[.iface 100 v]).run Tryz.prog w = .ok (.iface 284 (.agg #[Y (ω ⟨7,100,ξ⟩)])) w:=by kernel_rfl
theorem tL (w:World):(ReflectliteType.relation "AssignableTo" ReflectliteType.assignableTo #[.agg #[Y (ω ⟨7,100,ξ⟩)],.iface 284 (.agg #[Y (ω ⟨7,100,ξ⟩)])]).run Tryz.prog w = .ok (.bool true) w:=by kernel_rfl
theorem AM (e:Int) (w:World):(ReflectliteValue.unpack (.iface 100 (.int .i64 e))).run Tryz.prog w
  = .ok (.agg #[Y (ω ⟨7,100,ξ⟩),Y (ω ⟨w.heap.size,0,ξ⟩),.int .u64 130]) (w.alloc (.cells #[.int .i64 e] 100)):=by kernel_rfl
theorem AN (w:World):(Rtype.elem? 108).run Tryz.prog w = .ok (ω 100) w:=by kernel_rfl
theorem Kn (p:Addr) (w:World):(ReflectliteValue.mk 100 p ReflectliteValue.flagAddr).run Tryz.prog w = .ok (.agg #[Y (ω ⟨7,100,ξ⟩),Y (ω p),.int .u64 386]) w:=by kernel_rfl
theorem CK (a p:Addr) (W:World) (ha:W.cell? a=ω (Y (ω p))) :
  (ReflectliteValue.method (ReflectliteValue.valueError "reflectlite.Value.Elem" 0) ReflectliteValue.elem #[.agg #[Y (ω ⟨7,108,ξ⟩),Y (ω a),.int .u64 150]]).run Tryz.prog W
   = .ok (.agg #[Y (ω ⟨7,100,ξ⟩),Y (ω p),.int .u64 386]) W:=by
 rw[J9];simp only[Sem.run_bind,vw,Result.andThen];simp[ReflectliteValue.elem,loadVar,isAgg,underlying,Tryz.underlying108,ha,Result.andThen,AN,Kn]
theorem CM (a:Addr) (w:World):(ReflectliteValue.parts (.agg #[Y (ω ⟨7,100,ξ⟩),Y (ω a),.int .u64 386])).run Tryz.prog w = .ok (ω (100,a,386)) w:=by kernel_rfl
theorem E8 (a:Addr) (w:World):(ReflectliteValue.parts (.agg #[Y (ω ⟨7,100,ξ⟩),Y (ω a),.int .u64 130])).run Tryz.prog w = .ok (ω (100,a,130)) w:=by kernel_rfl
theorem CN (w:World):(Rtype.directlyAssignable 100 100).run Tryz.prog w = .ok true w:=by kernel_rfl
theorem IM (ta b:Addr) (e:Int) (old:Value) (W:World) (hb:W.cell? b=ω (.int .i64 e)) (ht:W.cell? ta=ω old) (hf:W.frozen? ta=false) :
  (ReflectliteValue.set #[.agg #[Y (ω ⟨7,100,ξ⟩),Y (ω ta),.int .u64 386],.agg #[Y (ω ⟨7,100,ξ⟩),Y (ω b),.int .u64 130]]).run Tryz.prog W
   = .ok (.tuple #[]) (W.setCell ta (.int .i64 e)):=by
 rw[Ls];simp only[Sem.run_bind,CM,E8,Result.andThen];simp[ReflectliteValue.flagAddr,loadVar,isAgg,underlying,Tryz.underlying100,hb,Result.andThen,CN,storeVar,Value.cells,storeCells,Addr.add];rw[run_store Tryz.prog W ta _ _ (by rfl)];simp[ht,hf]
theorem AP (w:World):(ReflectliteType.relation "AssignableTo" ReflectliteType.assignableTo #[.agg #[Y (ω ⟨7,100,ξ⟩)],.iface 284 (.agg #[Y (ω ⟨7,101,ξ⟩)])]).run Tryz.prog w = .ok (.bool false) w:=by kernel_rfl
theorem IN (v:Value) (xT:TypeId) (w:World):(Instr.typeAssert (.iface 100 v) xT 296 true).run Tryz.prog w = .ok (.tuple #[.nilIface,.bool false]) w:=run_typeAssert_lacksB Tryz.underlying296 (by kernel_rfl) (by kernel_rfl) v xT w
theorem sc (v:Value) (xT:TypeId) (w:World):(Instr.typeAssert (.iface 100 v) xT 289 true).run Tryz.prog w = .ok (.tuple #[.nilIface,.bool false]) w:=run_typeAssert_lacksB Tryz.underlying289 (by kernel_rfl) (by kernel_rfl) v xT w
theorem pH (v:Value) (xT:TypeId) (w:World):(Instr.typeAssert (.iface 100 v) xT 291 true).run Tryz.prog w = .ok (.tuple #[.nilIface,.bool false]) w:=run_typeAssert_lacksB Tryz.underlying291 (by kernel_rfl) (by kernel_rfl) v xT w
end Go.Proofs.YtaagdjkinbemcaaGreatDoor
