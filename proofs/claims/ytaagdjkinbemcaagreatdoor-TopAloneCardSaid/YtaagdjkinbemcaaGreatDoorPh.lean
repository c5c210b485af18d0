/-
Lemmas for TopAlone. No condition.
-/
import Derived.WalkKit
import Derived.ProofKit
import Derived.Deep.Slices
import Derived.Deep.Draws
import Derived.Lib.Hide
import Derived.ReadAgain
import Derived.Below
import Derived.ChangeSame
import Derived.Lib.SmallJoins
import Derived.Deep.AppendLies
import Derived.Laws.MakeOwn
import Derived.Test.YtaagdjkinbemcaaGreatDoorProg
import Derived.Deep.QuietTactic
import Derived.BigQuiet
import Derived.WalkSpells
import Derived.BigGuardPart
namespace Go.Proofs.YtaagdjkinbemcaaGreatDoor
open _root_.Option renaming some->Y
set_option linter.unusedVariables false
set_option linter.unusedSimpArgs false
set_option linter.unusedSectionVars false
set_option linter.unnecessarySimpa false
section
open Go Go.RowKit
structure Rd (α:Type) where
 size:Nat
 rel:(Nat->Prop)->World->List Value->α->Prop
 len:∀{F w cs x},rel F w cs x->cs.length=size
 one:∀{F w cs x},rel F w cs x->∀u∈cs,u.oneCell' = true
 keep:∀{F w w' cs x},(∀b,F b->b<w.heap.size->w'.heap[b]? = w.heap[b]?)->rel F w cs x->rel F w' cs x
 mono:∀{F G w cs x},(∀b,F b->b<w.heap.size->G b)->rel F w cs x->rel G w cs x
abbrev eN (w w':World):Prop:=Below w.heap.size w w'
theorem eN.refl (w:World):eN w w:=Below.refl _ _
theorem eN.trans {a b c:World}(h:eN a b) (k:eN b c):eN a c:=Below.trans h (Below.mono k h.size)
theorem eN.drewN (w:World) (n:Nat):eN w (w.drewN n):=⟨rfl,rfl,rfl,Nat.le_refl _,λ_ _=>rfl⟩
theorem eN.al {a w:World}{o:Obj}(h:eN a w):eN a (w.alloc o):=Below.alloc h h.size o
theorem eN.dr {a w:World}(h:eN a w):eN a w.drew:=Below.drew h
theorem eN.dn {a w:World}{n:Nat}(h:eN a w):eN a (w.drewN n):=eN.trans h (eN.drewN w n)
theorem eN.st {a w:World}{p:Addr}{u:Value}(hp:a.heap.size<=p.block) (h:eN a w):eN a (w.setCell p u):=Below.setCell h hp u
theorem lV {w:World}{a:Addr}{v:Value}(h:w.cell? a=Y v):a.block<w.heap.size:=by
 rcases Nat.lt_or_ge a.block w.heap.size with hlt | hge
 .exact hlt
 .unfold World.cell? at h;rw[Array.getElem?_eq_none hge]at h;cases h
end
section
open Go Go.RowKit Go.ChangeShapes Go.WideShapes Go.Deep Go.Joins
section
variable {H:Type}{enc:TypeId×Value->H}{P:Program}{w w':World}{base:Nat}{sp:Nat->Bool}{held:Bool}
theorem yJ (h:eN w w') (p:MemPlace) (hp:p.block<w.heap.size):w.sameAt w' p:=by
 cases p with
 | cell b off=>exact h.cell (p:=⟨b,off,none⟩) hp
 | map b=>exact h.block b hp
theorem DI (h:eN w w'){t:TypeId}{v:Value}{d:DataW H}{ps:List MemPlace}(ht:DataW.Trod enc P w base sp held t v d ps) (hp:∀p∈ps,p.block<w.heap.size):DataW.Trod enc P w' base sp held t v d ps:=by
 obtain⟨n,hn⟩:=ht;exact⟨n,DataW.trod_carry n _ _ _ hn λp hpp=>yJ h p (hp p hpp)⟩
theorem oK (h:eN w w'):∀{ts:List TypeId}{vs:List Value}{ds:List (DataW H)}{ps:List MemPlace},DataW.TrodAll enc P w base sp held ts vs ds ps->(∀p∈ps,p.block<w.heap.size)->DataW.TrodAll enc P w' base sp held ts vs ds ps
 | [],[],[],_,ht,_=>ht
 | _ :: _,_ :: _,_ :: _,_,⟨p,q,h1,h2,e⟩,hp=>⟨p,q,DI h h1 (λx hx=>hp x (by rw[e];exact List.mem_append_left _ hx)),oK h h2 (λx hx=>hp x (by rw[e];exact List.mem_append_right _ hx)),e⟩
theorem post_true {f:Func}{s:ChangeSpec}{W W':World}{args:Array Value}{ds:List (DataW H)}{before:List MemPlace}{fresh handsOn again:Bool}{tb:TypeId}
  (K:Kids P (· < P.types.size)) (hz:∀t e,t<P.types.size->P.underlying t=Y (.slice e)->0<P.cellsOf e) (hts:∀t∈f.params.toList,t<P.types.size)
  (hvars:s.vars = []) (hb:P.underlying tb=Y .bool) (hr:f.resultTypes = #[tb])
  (hfn:(s.fn H (ds ++ [])).results = [.lit (.bool true)]/\(s.fn H (ds ++ [])).args=ds/\(s.fn H (ds ++ [])).vars = [])
  (hW:DataW.Whole enc P f.params.toList s.vars false W args.toList ds [] before) (he:eN W W'):s.post enc P f false fresh handsOn again W args (.bool true) W':=by
 have hW':=hW;obtain⟨p,q,hA0,hV,rfl,hfz,hnd⟩:=hW;rw[hvars]at hV;obtain⟨-,rfl⟩:=trodVars_none hV;have hlt:∀x∈p,x.block<W.heap.size:=DataW.TrodAll.lt hA0;simp only[List.append_nil]at hW';have hold:∀x∈p,(λb=>decide (b<W.heap.size)) x.block=true:=λx hx=>by simpa using hlt x hx
 have hargs:∀sp:Nat->Bool,(∀x∈p,sp x.block=true)->DataW.TrodAll enc P W' 0 sp true f.params.toList args.toList ds p:=λsp hsp=>
  oK he (DataW.TrodAll.respare K hz hts hA0 hsp) hlt
 have hres:∀(b:Nat) (sp:Nat->Bool) (hd:Bool),DataW.TrodAll enc P W' b sp hd f.resultTypes.toList ((Value.bool true).resultList f.resultTypes.size) [.lit (.bool true)] []:=λb sp hd=>by
  rw[hr];exact trodAll_cons_mk (shut_bool hb _) trodAll_mk0
 refine⟨ds,[],p,[],p,[],hW',by rw[hfn.1];exact hres _ _ _,by rw[hfn.2.1];exact hargs _ hold,by rw[hvars,hfn.2.2];rfl,World.keptBut_mono (λx hx=>⟨hx,?_⟩) (he.frame (·∈p)),λ_=>?_⟩
 .exact .inr (.inl hx)
 .refine⟨ok_one hr rfl (okWide_bool_mk hb _),_,[],([] ++ p) ++ [],⟨[] ++ p,[],trodAll_append (hargs _ (λ_ _=>rfl)) (hres _ _ _),by rw[hvars];rfl,rfl,?_,?_⟩,?_⟩
  .intro b off hp;have hin:MemPlace.cell b off∈p:=by simpa using hp
   rw[he.frozen (hlt _ hin)];exact hfz b off (by simpa using hin)
  .intro ha;cases ha
  .intro x hx _;simpa using hx
theorem FM {w:World}{a:Addr}{v:Value}(h:w.cell? a=Y v):a.block<w.heap.size:=by
 rcases Nat.lt_or_ge a.block w.heap.size with hlt | hge
 .exact hlt
 .unfold World.cell? at h;rw[Array.getElem?_eq_none hge]at h;cases h
theorem DJ {t:TypeId}{f0 f1 f2:Field}(hs:P.underlying t=Y (.struct #[f0,f1,f2])) (hone:oneCellFields P #[f0,f1,f2]=true) (hC:P.cellsOf t=3){n:Nat}{cs:List Value}{x:DataW H×List MemPlace}
  (h:DataW.trod enc P w base sp held n t cs=Y x) :
  ∃v0 v1 v2 y0 y1 y2 n,cs = [v0,v1,v2]/\DataW.trod enc P w base sp held n f0.type [v0]=Y y0/\DataW.trod enc P w base sp held n f1.type [v1]=Y y1/\DataW.trod enc P w base sp held n f2.type [v2]=Y y2:=by
 obtain⟨y0,y1,y2,n,hx,hl,h0,h1,h2⟩:=trod_struct3 hs h;obtain⟨o0,k0⟩:=hone_of hone 0 f0 rfl;obtain⟨o1,k1⟩:=hone_of hone 1 f1 rfl;obtain⟨o2,k2⟩:=hone_of hone 2 f2 rfl;rw[hC]at hl
 match cs,hl with
 | [v0,v1,v2],_=>exact⟨v0,v1,v2,y0,y1,y2,n,rfl,by simpa[o0,k0]using h0,by simpa[o1,k1]using h1,by simpa[o2,k2]using h2⟩
end
end
section
open Go Go.RowKit
structure Mq (P:Program) (t e:TypeId) (size bytes:Nat) (z:Value):Prop where
 und:P.underlying t=Y (.slice e)
 info:∃i,P.info? e=Y i/\i.zero=Y z/\i.size=size/\i.bytes=bytes
 zs:z.cells.size=size
 pos:0<size
 bpos:0<bytes
section
variable {P:Program}{w:World}{t e:TypeId}{size bytes:Nat}{z:Value}(T:Mq P t e size bytes z)
include T
end
section
variable {P:Program}{w:World}{t e:TypeId}{bytes:Nat}{z:Value}{α:Type}{r:Rd α}(T:Mq P t e r.size bytes z)
include T
end
end
section
open Go Go.RowKit
abbrev fJ:=Int×Int×Int
abbrev wH:=Int×Int×List Int
end
section
open Go Go.RowKit
section
variable {P:Program}{w:World}{t e:TypeId}{bytes:Nat}{z:Value}{α:Type}{r:Rd α}(T:Mq P t e r.size bytes z)
include T
end
end
end Go.Proofs.YtaagdjkinbemcaaGreatDoor
