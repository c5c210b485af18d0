/-
A part of the proof of TopShut: lemmas that the last text joins. No condition.
-/
import Derived.Test.YteffnclboadalaaGreatDoorKn1
import Derived.Test.YteffnclboadalaaGreatDoorKn2
import Derived.Test.YteffnclboadalaaGreatDoorKn3
import Derived.Test.YteffnclboadalaaGreatDoorKn4
import Derived.Test.YteffnclboadalaaGreatDoorKn5
namespace Go.Proofs.YteffnclboadalaaGreatDoor
set_option linter.unusedVariables false
set_option linter.unusedSimpArgs false
set_option linter.unusedSectionVars false
set_option linter.unnecessarySimpa false
open Go Go.RowKit
namespace Eva
theorem mixed:Tryz.prog.follows .mixedOrders=true:=by kernel_rfl
theorem kbody_is:Tryz.f4.body=some kbody:=by kernel_rfl
theorem kreg_is:isReg krest12=true:=by kernel_rfl
theorem krest_is:restOf krest12 = .ret:=by kernel_rfl
theorem kts4_ok:allL (fun p=>Nat.blt p.1 129) kts4=true:=by kernel_rfl
theorem kts9_ok:allL (fun p=>Nat.blt p.1 129) kts9=true:=by kernel_rfl
theorem kts12_ok:allL (fun p=>Nat.blt p.1 129) kts12=true:=by kernel_rfl
theorem kts41_ok:allL (fun p=>Nat.blt p.1 129) kts41=true:=by kernel_rfl
theorem kntmps:Tryz.f4.ntmps=129:=by kernel_rfl
theorem known_c (w:World):Calls Tryz.prog 4 #[] w fun e w'=>e = .returned (.bool true)∧Below w.heap.size w w':=by
 refine calls_of_wp Tryz.func4 kbody_is ?_
 have hr:HR Tryz.prog ⟨fun _=>none,fun _=>0⟩ ⟨107,.nil⟩ w:=
  ⟨(fun n b h=>by cases h),(fun n b o h=>by cases h),(fun n m b o p h=>by cases h),fun n _=>rfl⟩
 have hA:AR ⟨fun _=>none,fun _=>0⟩ ⟨129,.nil⟩ { tmps:=#[] ++ Array.replicate (Tryz.f4.ntmps - (#[]:Array Value).size) undef,defers:=[] }:=by
  rw [kntmps]
  refine ⟨by simp,rfl,fun t _=>?_⟩
  unfold TR Fr.get
  rw [Array.getD_eq_getD_getElem?]
  have:((#[] ++ Array.replicate (129 - (#[]:Array Value).size) undef)[t]?).getD undef=undef:=by
   simp only [Array.empty_append,List.size_toArray,List.length_nil,Nat.sub_zero,Array.getElem?_replicate]
   split <;> rfl
  rw [this]
  exact undef_vr _
 rw [← split_eq 4 kbody]
 refine part_sound mixed (σ:=⟨fun _=>none,fun _=>0⟩) kn1 kts4_ok hr hA (B:=w.heap.size) (fun n b h=>by cases h) (Nat.le_refl _) (fun σ1 a1 w1 hr1 hA1 f1 b1=>?_)
 rw [show (splitSeq 4 kbody).2=krest4 from rfl,← split_eq 5 krest4]
 refine part_sound mixed kn2 kts9_ok hr1 hA1 f1 b1.size (fun σ2 a2 w2 hr2 hA2 f2 b2=>?_)
 rw [show (splitSeq 5 krest4).2=krest9 from rfl,← split_eq 3 krest9]
 have s2:=Nat.le_trans b1.size b2.size
 refine part_sound mixed kn3 kts12_ok hr2 hA2 f2 s2 (fun σ3 a3 w3 hr3 hA3 f3 b3=>?_)
 have s3:=Nat.le_trans s2 b3.size
 rw [show (splitSeq 3 krest9).2=krest12 from rfl]
 have h5:=kn5
 unfold saysTrue at h5
 split at h5
 ·rename_i fr h he
  split at h5
  ·rename_i b hb
   subst h5
   refine region_parts mixed kreg_is kn4 kts41_ok he hr3 hA3 f3 s3 (fun σ4 a4 w4 hr4 hA4 f4 b4=>?_)
   rw [krest_is]
   refine wp_ret ?_
   obtain ⟨vs',q1,q2⟩:=resA_sound hr4 hA4 Tryz.f4.results.toList hb
   have hrun:(results Tryz.f4 a4.tmps).run Tryz.prog w4 = .ok (if h:vs'.toArray.size=1 then vs'.toArray[0] else .tuple vs'.toArray) w4:=by
    rw [results_eq,Array.mapM_eq_mapM_toList]
    simp only [Sem.run_bind,Sem.run_map,q1,Result.andThen_ok,Sem.run_pure]
   have hone:=one_vr q2
   have:(if h:vs'.toArray.size=1 then vs'.toArray[0] else .tuple vs'.toArray)=Value.bool true:=by
    generalize (if h:vs'.toArray.size=1 then vs'.toArray[0] else Value.tuple vs'.toArray)=z at hone
    have h1:one [Value.bool true] = .bool true:=rfl
    rw [h1] at hone
    cases hone; rfl
   rw [this] at hrun
   exact ⟨hA4.d,_,hrun,rfl,((b1.trans b2).trans b3).trans b4⟩
  ·cases h5
 ·cases h5
end Eva
end Go.Proofs.YteffnclboadalaaGreatDoor
