/-
Lemmas for TopHops. No condition.
-/
import Derived.Test.YtmbadhdpcdbdbaaGreatDoorKn1
import Derived.Test.YtmbadhdpcdbdbaaGreatDoorKn2
import Derived.Test.YtmbadhdpcdbdbaaGreatDoorKn3
import Derived.Test.YtmbadhdpcdbdbaaGreatDoorKn4
import Derived.Test.YtmbadhdpcdbdbaaGreatDoorKn5
namespace Go.Proofs.YtmbadhdpcdbdbaaGreatDoor
set_option linter.unusedVariables false
set_option linter.unusedSimpArgs false
set_option linter.unusedSectionVars false
set_option linter.unnecessarySimpa false
open Go Go.RowKit
namespace Eva
theorem tv:Tryz.prog.follows .mixedOrders=true:=by kernel_rfl
theorem zX:Tryz.f4.body=some ua:=by kernel_rfl
theorem C0:xI gP=true:=by kernel_rfl
theorem zY:vW gP = .ret:=by kernel_rfl
theorem C1:aU (λp=>Nat.blt p.1 129) E5=true:=by kernel_rfl
theorem C2:aU (λp=>Nat.blt p.1 129) E6=true:=by kernel_rfl
theorem zZ:aU (λp=>Nat.blt p.1 129) Bi=true:=by kernel_rfl
theorem z0:aU (λp=>Nat.blt p.1 129) Bj=true:=by kernel_rfl
theorem EC:Tryz.f4.ntmps=129:=by kernel_rfl
theorem C3 (w:World):Calls Tryz.prog 4 #[] w λe w'=>e = .returned (.bool true)/\Below w.heap.size w w':=by
 refine calls_of_wp Tryz.func4 zX ?_;have hr:HR Tryz.prog ⟨λ_=>none,λ_=>0⟩ ⟨107,.nil⟩ w:=
  ⟨(λn b h=>by cases h),(λn b o h=>by cases h),(λn m b o p h=>by cases h),λn _=>rfl⟩
 have hA:AR ⟨λ_=>none,λ_=>0⟩ ⟨129,.nil⟩ { tmps:=#[] ++ Array.replicate (Tryz.f4.ntmps - (#[]:Array Value).size) undef,defers:=[] }:=by
  rw[EC];refine⟨by simp,rfl,λt _=>?_⟩;unfold TR Fr.get;rw[Array.getD_eq_getD_getElem?];have:((#[] ++ Array.replicate (129 - (#[]:Array Value).size) undef)[t]?).getD undef=undef:=by
   simp only[Array.empty_append,List.size_toArray,List.length_nil,Nat.sub_zero,Array.getElem?_replicate]
   split <;>rfl
  rw[this];exact cz _
 rw[<-kw 4 ua];refine jG tv (σ:=⟨λ_=>none,λ_=>0⟩) Ig C1 hr hA (B:=w.heap.size) (λn b h=>by cases h) (Nat.le_refl _) (λσ1 a1 w1 hr1 hA1 f1 b1=>?_);rw[show(bF 4 ua).2=oP from rfl,<-kw 5 oP];refine jG tv Ih C2 hr1 hA1 f1 b1.size (λσ2 a2 w2 hr2 hA2 f2 b2=>?_);rw[show(bF 5 oP).2=oQ from rfl,<-kw 3 oQ];have s2:=Nat.le_trans b1.size b2.size;refine jG tv Ii zZ hr2 hA2 f2 s2 (λσ3 a3 w3 hr3 hA3 f3 b3=>?_);have s3:=Nat.le_trans s2 b3.size;rw[show(bF 3 oQ).2=gP from rfl];have h5:=Ik;unfold tw at h5
 split at h5
 .rename_i fr h he
  split at h5
  .rename_i b hb;subst h5;refine sh tv C0 Ij z0 he hr3 hA3 f3 s3 (λσ4 a4 w4 hr4 hA4 f4 b4=>?_);rw[zY];refine wp_ret ?_;obtain⟨vs',q1,q2⟩:=gN hr4 hA4 Tryz.f4.results.toList hb;have hrun:(results Tryz.f4 a4.tmps).run Tryz.prog w4 = .ok (if h:vs'.toArray.size=1 then vs'.toArray[0] else .tuple vs'.toArray) w4:=by
    rw[oF,Array.mapM_eq_mapM_toList];simp only[Sem.run_bind,Sem.run_map,q1,Result.andThen_ok,Sem.run_pure]
   have hone:=AD q2;have:(if h:vs'.toArray.size=1 then vs'.toArray[0] else .tuple vs'.toArray)=Value.bool true:=by
    generalize (if h:vs'.toArray.size=1 then vs'.toArray[0] else Value.tuple vs'.toArray)=z at hone;have h1:one [Value.bool true] = .bool true:=rfl;rw[h1]at hone;cases hone;rfl
   rw[this]at hrun;exact⟨hA4.d,_,hrun,rfl,((b1.trans b2).trans b3).trans b4⟩
  .cases h5
 .cases h5
end Eva
end Go.Proofs.YtmbadhdpcdbdbaaGreatDoor
