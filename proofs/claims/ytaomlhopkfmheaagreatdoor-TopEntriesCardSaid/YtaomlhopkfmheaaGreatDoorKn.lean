/-
Lemmas for TopEntries. No condition.
-/
import Derived.Test.YtaomlhopkfmheaaGreatDoorKn1
import Derived.Test.YtaomlhopkfmheaaGreatDoorKn2
import Derived.Test.YtaomlhopkfmheaaGreatDoorKn3
import Derived.Test.YtaomlhopkfmheaaGreatDoorKn4
import Derived.Test.YtaomlhopkfmheaaGreatDoorKn5
namespace Go.Proofs.YtaomlhopkfmheaaGreatDoor
set_option linter.unusedVariables false
set_option linter.unusedSimpArgs false
set_option linter.unusedSectionVars false
set_option linter.unnecessarySimpa false
open Go Go.RowKit
namespace Eva
theorem rM:Tryz.prog.follows .mixedOrders=true:=by kernel_rfl
theorem xX:Tryz.f4.body=some sH:=by kernel_rfl
theorem Aw:vL gc=true:=by kernel_rfl
theorem xY:uu gc = .ret:=by kernel_rfl
theorem Ax:aO (λp=>Nat.blt p.1 129) CO=true:=by kernel_rfl
theorem Ay:aO (λp=>Nat.blt p.1 129) CQ=true:=by kernel_rfl
theorem xZ:aO (λp=>Nat.blt p.1 129) yX=true:=by kernel_rfl
theorem ya:aO (λp=>Nat.blt p.1 129) yY=true:=by kernel_rfl
theorem Cp:Tryz.f4.ntmps=129:=by kernel_rfl
theorem Az (w:World):Calls Tryz.prog 4 #[] w λe w'=>e = .returned (.bool true)/\Below w.heap.size w w':=by
 refine calls_of_wp Tryz.func4 xX ?_
 have hr:HR Tryz.prog ⟨λ_=>none,λ_=>0⟩ ⟨107,.nil⟩ w:=
  ⟨(λn b h=>by cases h),(λn b o h=>by cases h),(λn m b o p h=>by cases h),λn _=>rfl⟩
 have hA:AR ⟨λ_=>none,λ_=>0⟩ ⟨129,.nil⟩ { tmps:=#[] ++ Array.replicate (Tryz.f4.ntmps - (#[]:Array Value).size) undef,defers:=[] }:=by
  rw[Cp]
  refine⟨by simp,rfl,λt _=>?_⟩
  unfold TR Fr.get
  rw[Array.getD_eq_getD_getElem?]
  have:((#[] ++ Array.replicate (129 - (#[]:Array Value).size) undef)[t]?).getD undef=undef:=by
   simp only[Array.empty_append,List.size_toArray,List.length_nil,Nat.sub_zero,Array.getElem?_replicate]
   split <;>rfl
  rw[this]
  exact bT _
 rw[<-jN 4 sH]
 refine jc rM (σ:=⟨λ_=>none,λ_=>0⟩) kn1 Ax hr hA (B:=w.heap.size) (λn b h=>by cases h) (Nat.le_refl _) (λσ1 a1 w1 hr1 hA1 f1 b1=>?_)
 rw[show(br 4 sH).2=nf from rfl,<-jN 5 nf]
 refine jc rM kn2 Ay hr1 hA1 f1 b1.size (λσ2 a2 w2 hr2 hA2 f2 b2=>?_)
 rw[show(br 5 nf).2=ng from rfl,<-jN 3 ng]
 have s2:=Nat.le_trans b1.size b2.size
 refine jc rM kn3 xZ hr2 hA2 f2 s2 (λσ3 a3 w3 hr3 hA3 f3 b3=>?_)
 have s3:=Nat.le_trans s2 b3.size
 rw[show(br 3 ng).2=gc from rfl]
 have h5:=kn5
 unfold rN at h5
 split at h5
 ·rename_i fr h he
  split at h5
  ·rename_i b hb
   subst h5
   refine qN rM Aw kn4 ya he hr3 hA3 f3 s3 (λσ4 a4 w4 hr4 hA4 f4 b4=>?_)
   rw[xY]
   refine wp_ret ?_
   obtain⟨vs',q1,q2⟩:=fY hr4 hA4 Tryz.f4.results.toList hb
   have hrun:(results Tryz.f4 a4.tmps).run Tryz.prog w4 = .ok (if h:vs'.toArray.size=1 then vs'.toArray[0] else .tuple vs'.toArray) w4:=by
    rw[mR,Array.mapM_eq_mapM_toList]
    simp only[Sem.run_bind,Sem.run_map,q1,Result.andThen_ok,Sem.run_pure]
   have hone:=yA q2
   have:(if h:vs'.toArray.size=1 then vs'.toArray[0] else .tuple vs'.toArray)=Value.bool true:=by
    generalize (if h:vs'.toArray.size=1 then vs'.toArray[0] else Value.tuple vs'.toArray)=z at hone
    have h1:one [Value.bool true] = .bool true:=rfl
    rw[h1]at hone
    cases hone;rfl
   rw[this]at hrun
   exact⟨hA4.d,_,hrun,rfl,((b1.trans b2).trans b3).trans b4⟩
  ·cases h5
 ·cases h5
end Eva
end Go.Proofs.YtaomlhopkfmheaaGreatDoor
