/-
Lemmas for TopAlone. No condition.
-/
import Derived.Test.YtaagdjkinbemcaaGreatDoorKn1
import Derived.Test.YtaagdjkinbemcaaGreatDoorKn2
import Derived.Test.YtaagdjkinbemcaaGreatDoorKn3
import Derived.Test.YtaagdjkinbemcaaGreatDoorKn4
import Derived.Test.YtaagdjkinbemcaaGreatDoorKn5
namespace Go.Proofs.YtaagdjkinbemcaaGreatDoor
open _root_.Option renaming none->Y
set_option linter.unusedVariables false
set_option linter.unusedSimpArgs false
set_option linter.unusedSectionVars false
set_option linter.unnecessarySimpa false
open Go Go.RowKit
namespace Eva
theorem oe:Tryz.prog.follows .mixedOrders=true:=by kernel_rfl
theorem CT:Tryz.f4.body=some wo:=by kernel_rfl
theorem Fe:zS io=true:=by kernel_rfl
theorem CV:yv io = .ret:=by kernel_rfl
theorem Ff:aV (λp=>Nat.blt p.1 129) HH=true:=by kernel_rfl
theorem Fg:aV (λp=>Nat.blt p.1 129) HI=true:=by kernel_rfl
theorem CW:aV (λp=>Nat.blt p.1 129) DG=true:=by kernel_rfl
theorem CX:aV (λp=>Nat.blt p.1 129) DH=true:=by kernel_rfl
theorem Hi:Tryz.f4.ntmps=129:=by kernel_rfl
theorem Fh (w:World) (hH:w.cell? ⟨0,0,Y⟩=some (.iface 284 (.agg #[.pointer (some ⟨7,53,Y⟩)]))):Calls Tryz.prog 4 #[] w λe w'=>e = .returned (.bool true)/\im w.heap.size w w':=by
 refine calls_of_wp Tryz.func4 CT ?_;have hr:HR Tryz.prog ⟨λ_=>Y,λ_=>0⟩ ⟨107,.nil⟩ w:=
  ⟨(λn b h=>by cases h),(λn b o h=>by cases h),(λn m b o p h=>by cases h),(λn _=>rfl),hH,λn o h=>by cases h⟩
 have hA:AR ⟨λ_=>Y,λ_=>0⟩ ⟨129,.nil⟩ { tmps:=#[] ++ Array.replicate (Tryz.f4.ntmps - (#[]:Array Value).size) undef,defers:=[] }:=by
  rw[Hi];refine⟨by simp,rfl,λt _=>?_⟩;unfold TR Fr.get;rw[Array.getD_eq_getD_getElem?];have:((#[] ++ Array.replicate (129 - (#[]:Array Value).size) undef)[t]?).getD undef=undef:=by
   simp only[Array.empty_append,List.size_toArray,List.length_nil,Nat.sub_zero,Array.getElem?_replicate]
   split <;>rfl
  rw[this];exact cB _
 rw[<-lL 4 wo];refine kx oe (σ:=⟨λ_=>Y,λ_=>0⟩) LO Ff hr hA (B:=w.heap.size) (λn b h=>by cases h) (Nat.le_refl _) (λσ1 a1 w1 hr1 hA1 f1 b1=>?_);rw[show(bK 4 wo).2=qm from rfl,<-lL 5 qm];refine kx oe LQ Fg hr1 hA1 f1 b1.size (λσ2 a2 w2 hr2 hA2 f2 b2=>?_);rw[show(bK 5 qm).2=qn from rfl,<-lL 3 qn];have s2:=Nat.le_trans b1.size b2.size;refine kx oe LR CW hr2 hA2 f2 s2 (λσ3 a3 w3 hr3 hA3 f3 b3=>?_);have s3:=Nat.le_trans s2 b3.size;rw[show(bK 3 qn).2=io from rfl];have h5:=LU;unfold vB at h5
 split at h5
 .rename_i fr h he
  split at h5
  .rename_i b hb;subst h5;refine uy oe Fe LT CX he hr3 hA3 f3 s3 (λσ4 a4 w4 hr4 hA4 f4 b4=>?_);rw[CV];refine wp_ret ?_;obtain⟨vs',q1,q2⟩:=ii hr4 hA4 Tryz.f4.results.toList hb;have hrun:(results Tryz.f4 a4.tmps).run Tryz.prog w4 = .ok (if h:vs'.toArray.size=1 then vs'.toArray[0] else .tuple vs'.toArray) w4:=by
    rw[qe,Array.mapM_eq_mapM_toList];simp only[Sem.run_bind,Sem.run_map,q1,Result.andThen_ok,Sem.run_pure]
   have hone:=Dj q2;have:(if h:vs'.toArray.size=1 then vs'.toArray[0] else .tuple vs'.toArray)=Value.bool true:=by
    generalize (if h:vs'.toArray.size=1 then vs'.toArray[0] else Value.tuple vs'.toArray)=z at hone;have h1:one [Value.bool true] = .bool true:=rfl;rw[h1]at hone;cases hone;rfl
   rw[this]at hrun;exact⟨hA4.d,_,hrun,rfl,((b1.trans b2).trans b3).trans b4⟩
  .cases h5
 .cases h5
end Eva
end Go.Proofs.YtaagdjkinbemcaaGreatDoor
