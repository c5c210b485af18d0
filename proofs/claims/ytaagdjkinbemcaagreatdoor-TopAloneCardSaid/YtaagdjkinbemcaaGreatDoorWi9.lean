/-
Lemmas for TopAlone. No condition.
-/
import Derived.Test.YtaagdjkinbemcaaGreatDoorTDoor
import Derived.Test.YtaagdjkinbemcaaGreatDoorWi8
import Derived.Lib.SmallJoins
import Derived.LaidSub
import Derived.FnData
namespace Go.Proofs.YtaagdjkinbemcaaGreatDoor
open _root_.Option renaming some->Y
set_option linter.unusedVariables false
set_option linter.unusedSimpArgs false
set_option linter.unusedSectionVars false
set_option linter.unnecessarySimpa false
open Go Go.RowKit Go.ChangeShapes Go.WideShapes Go.ChangeAt Go.Joins Go.Deep
namespace Eva
theorem J8:Tryz.prog.globalNamed "errors.errorType" = Y 0:=by kernel_rfl
theorem IA:(Tryz.prog.cutTypes.find? (·.1 == "internal/reflectlite.rtype")).map (·.2)=Y 284:=by kernel_rfl
theorem GG:((List.range Tryz.prog.types.size).filter λt=>Tryz.prog.rowNamed t [101,114,114,111,114]) = [53]:=by kernel_rfl
theorem handleZ {W:World}(h:laidMetH Tryz.prog laidZ W):W.cell? ⟨0,0,none⟩=Y (.iface 284 (.agg #[.pointer (Y ⟨7,53,none⟩)])):=by
 have hm:("errors.errorType",Rows.laid_errors_errorType)∈laidZ.filter λx=>x.2.handleName?.isSome:=List.mem_filter.2 ⟨by simp[laidZ],rfl⟩
 obtain⟨name,u,ty,e1,e2,e3,e4,e5⟩:=(laidMetH_iff.1 h).2 _ hm;have en:name = [101,114,114,111,114]:=(Option.some.inj e1).symm;subst en;obtain rfl:=Option.some.inj (IA.symm.trans e2);have hm:ty∈(List.range Tryz.prog.types.size).filter λt=>Tryz.prog.rowNamed t [101,114,114,111,114]:=List.mem_filter.2 ⟨List.mem_range.2 e3,e4⟩;rw[GG]at hm;obtain rfl:=List.mem_singleton.1 hm;have hh:typeHandle Tryz.prog 53 = .pointer (Y ⟨7,53,none⟩):=by kernel_rfl
 rw[hh]at e5;have:=World.var?_cell J8 e5 0;simpa using this
section
variable {H:Type}{enc:TypeId×Value->H}{P:Program}{w:World}{base:Nat}{sp:Nat->Bool}{held:Bool}
theorem Cx {k0 k1:IntKind}{t:TypeId}{f0 f1:Field}(hs:P.underlying t=Y (.struct #[f0,f1])) (hone:oneCellFields P #[f0,f1]=true) (hC:P.cellsOf t=2)
  (t0:P.underlying f0.type=Y (.int k0)) (t1:P.underlying f1.type=Y (.int k1)) :
  ∀n cs (x:DataW H×List MemPlace),DataW.trod enc P w base sp held n t cs=Y x->∃a,(Rc.pair k0 k1).rel (inW w) (eY w) (cs.map (dA (a7 w))) a:=λn cs x h=>by
 obtain⟨y0,y1,n,hx,hl,h0,h1⟩:=trod_struct2 hs h;obtain⟨o0,c0⟩:=hone_of hone 0 f0 rfl;obtain⟨o1,c1⟩:=hone_of hone 1 f1 rfl;rw[hC]at hl
 match cs,hl with
 | [v0,v1],_=>
  replace h0:DataW.trod enc P w base sp held n f0.type [v0]=Y y0:=by simpa[o0,c0]using h0
  replace h1:DataW.trod enc P w base sp held n f1.type [v1]=Y y1:=by simpa[o1,c1]using h1
  obtain⟨a0,e0,-,w0⟩:=DataW.trod_int t0 h0;obtain⟨a1,e1,-,w1⟩:=DataW.trod_int t1 h1;simp at e0 e1;subst e0 e1;exact⟨(a0,a1),rfl⟩
end
section
variable {H:Type}{enc:TypeId×Value->H}{w:World}{base:Nat}{sp:Nat->Bool}{held:Bool}
set_option maxRecDepth 100000 in
theorem jobZ_opens {r:Reach}{b0:Nat}{v:Value}{d:DataW H}{p:List MemPlace}(hv:Value.okWide Tryz.prog w r b0 33 v) (h:DataW.Trod enc Tryz.prog w base sp held 33 v d p) :
  ∃dep cap lim us A n K st,v = .agg #[.int .i64 dep,.int .i64 cap,.int .i64 lim,us]/\dA (a7 w) us = .slice A n K/\Sz jo (inW w) (eY w) A n K st:=by
 obtain⟨v0,v1,v2,v3,y0,y1,y2,y3,n,rfl,-,-,h0,h1,h2,h3⟩:=open_agg4 Tryz.underlying33 (by kernel_rfl) (by kernel_rfl) hv h;obtain⟨a0,e0,-,w0⟩:=DataW.trod_int Tryz.underlying3 h0;obtain⟨a1,e1,-,w1⟩:=DataW.trod_int Tryz.underlying2 h1;obtain⟨a2,e2,-,w2⟩:=DataW.trod_int Tryz.underlying2 h2;obtain⟨A,m,c,B,K,st,e3,-,i3,s3⟩:=Sz.of_trod (r:=jo) Tryz.underlying31 (by kernel_rfl) (by decide)
  (Cx Tryz.underlying73 (by kernel_rfl) (by kernel_rfl) Tryz.underlying3 Tryz.underlying2) h3
 simp only[List.cons.injEq,and_true]at e0 e1 e2 e3;subst e0 e1 e2 e3;exact⟨a0,a1,a2,_,B,m,K,st,rfl,i3,s3⟩
end
end Eva
end Go.Proofs.YtaagdjkinbemcaaGreatDoor
