/-
Lemmas for TopHops. No condition.
-/
import Derived.Test.YtmbadhdpcdbdbaaGreatDoorPk
import Derived.Test.YtmbadhdpcdbdbaaGreatDoorPh
import Derived.Test.YtmbadhdpcdbdbaaGreatDoorPl
import Derived.WalkKit
import Derived.OpenShut
import Derived.Test.YtmbadhdpcdbdbaaGreatDoorPn
namespace Go.Proofs.YtmbadhdpcdbdbaaGreatDoor
open _root_.Go.Value renaming slice->ξ
open _root_.Option renaming none->ψ,some->ω
set_option linter.unusedVariables false
set_option linter.unusedSimpArgs false
set_option linter.unusedSectionVars false
set_option linter.unnecessarySimpa false
section
open Go Go.RowKit Go.ChangeShapes Go.WideShapes Go.Deep Go.Joins
namespace Eva
def bg (w:World) (b:Nat):Bool:=match w.heap[b]? with
 | some (.cells _ _ _)=>true
 | _=>false
def dS (C:Nat->Bool):Value->Value
 | .bool b=>.bool b
 | .int k n=>.int k n
 | .string x=>.string x
 | .pointer ψ=>.pointer ψ
 | ξ ψ 0 0=>ξ ψ 0 0
 | ξ (ω ⟨b,o,ψ⟩) n c=>cond (C b) (ξ (ω ⟨b,o,ψ⟩) n (cx c)) (cond (Nat.beq n 0) eG pQ)
 | .slice (ω _) 0 _=>eG
 | _=>pQ
def tk (w:World):aM:=⟨λn=>cond (bg w n) (ω n) ψ,λ_=>0⟩
theorem eN {w:World}{n b:Nat}(h:tk w n=ω b):b=n/\∃c e f,w.heap[n]? = ω (.cells c e f):=by
 unfold tk at h;simp only at h;cases hc:bg w n with
 | false=>rw[hc]at h;cases h
 | true=>
  rw[hc]at h;injection h with h;refine⟨h.symm,?_⟩;unfold bg at hc
  split at hc
  .rename_i c e f hg;exact⟨c,e,f,hg⟩
  .cases hc
theorem yr {w:World}{n:Nat}(h:bg w n=true):tk w n=ω n:=by
 unfold tk;simp only[h,cond_true]
theorem jh (w:World) (v:Value):VR (tk w) (dS (bg w) v) v:=by
 unfold dS
 split
 .exact .bool _
 .exact .int _ _
 .exact .string _
 .exact .ptr0
 .exact .sl0
 .rename_i b o n c;cases hc:bg w b with
  | true=>
   refine .sl (yr hc) (CR.cx c) λh=>?_;unfold cx at h;omega
  | false=>
   cases hn:Nat.beq n 0 with
   | true=>
    have:=av hn;subst this;exact .far
   | false=>exact .any _ rfl
 .exact .far
 .rename_i h1 _ _ _ _ _ _;refine .any _ ?_;unfold ED
  split
  .exact absurd rfl (h1 _)
  .rfl
def tm (w:World) (n:Nat):Option AO:=match w.heap[n]? with
 | some (.cells c e _)=>ω (.cells (c.toList.map (dS (bg w))) e true)
 | _=>ψ
noncomputable def CJ (w:World):Nat->Tr AO
 | 0=>.nil
 | n+1=>(CJ w n).set n (tm w n)
noncomputable def fS (w:World):AH:=⟨w.heap.size,CJ w w.heap.size⟩
theorem vj (w:World) (b:Nat):∀n,(CJ w n).get b=if b<n then tm w b else ψ
 | 0=>by rw[if_neg (Nat.not_lt_zero _)];rfl
 | n+1=>by
  show((CJ w n).set n (tm w n)).get b=_;by_cases e:b=n
  .subst e;rw[Tr.get_set,if_pos (Nat.lt_succ_self _)]
  .rw[Tr.get_set_ne _ _ (λh=>e h.symm),vj w b n];by_cases h:b<n
   .rw[if_pos h,if_pos U]
   .rw[if_neg h,if_neg U]
theorem ll (w:World) (b:Nat):(fS w).get b=tm w b:=by
 show(CJ w w.heap.size).get b=_;rw[vj];by_cases h:b<w.heap.size
 .rw[if_pos h]
 .rw[if_neg h];unfold tm;rw[Array.getElem?_eq_none U]
theorem FV (P:Program) (w:World):HR P (tk w) (fS w) w where
 lt:=λn b h=>by
  obtain⟨rfl,c,e,f,hg⟩:=eN h;have:=(Array.getElem?_eq_some_iff.1 hg).1;exact⟨this,this⟩
 obj:=λn b o h ho=>by
  obtain⟨rfl,c,e,f,hg⟩:=eN h;rw[ll]at ho;unfold tm at ho;rw[hg]at ho;injection ho with ho;subst ho;refine⟨_,hg,.cells (λi v hv=>?_) (λh=>by cases h) (λi _=>by simp[tk])⟩;rw[List.getElem?_map]at hv;cases hc:c.toList[i]? with
  | none=>rw[hc]at hv;cases hv
  | some v'=>
   rw[hc]at hv;injection hv with hv;subst hv;exact⟨v',by simpa using hc,jh w v'⟩
 inj:=λn m b o p h k _ _=>by
  obtain⟨rfl,_⟩:=eN h;exact(eN k).1
 none:=λn hn=>by
  rw[ll];unfold tm;rw[Array.getElem?_eq_none hn]
theorem Ec {P:Program}{w w':World}{σ':aM}{h':AH}(s:St P (tk w) (fS w) w σ' h' w'):my w w':=by
 refine⟨s.os,s.tape,s.output,s.size,λb hb=>?_⟩;cases hc:bg w b with
 | true=>
  have h1:=yr hc;obtain⟨-,c,e,f,hg⟩:=eN h1;have h2:(fS w).get b=ω (.cells (c.toList.map (dS (bg w))) e true):=by
   rw[ll];unfold tm;rw[hg]
  exact(s.ro b b _ _ h1 h2).2
 | false=>
  refine s.frame b hb λn hn=>?_;obtain⟨rfl,c,e,f,hg⟩:=eN hn;unfold bg at hc;rw[hg]at hc;cases hc
section
variable {w:World}
theorem FW {b o:Nat}{v:Value}(h:w.cell? ⟨b,o,ψ⟩=ω v):ldC (fS w) b o=ω (dS (bg w) v):=by
 unfold World.cell? at h;simp only at h;have hlt:b<w.heap.size:=by
  rcases Nat.lt_or_ge b w.heap.size with h1 | h1
  .exact h1
  .rw[Array.getElem?_eq_none h1]at h;cases h
 cases hg:w.heap[b]? with
 | none=>rw[hg]at h;cases h
 | some ob=>
  rw[hg]at h;cases ob with
  | cells c e f=>
   have h1:c[o]? = ω v:=by simpa using h
   have h2:(fS w).get b=ω (.cells (c.toList.map (dS (bg w))) e true):=by
    rw[ll];unfold tm;rw[hg]
   rw[aT h2,List.getElem?_map,Array.getElem?_toList,h1];rfl
  | _=>simp at h
theorem CK {b o:Nat}{v:Value}(h:w.cell? ⟨b,o,ψ⟩=ω v):bg w b=true:=by
 unfold World.cell? at h;simp only at h;unfold bg;cases hg:w.heap[b]? with
 | none=>rw[hg]at h;cases h
 | some ob=>
  rw[hg]at h;cases ob with
  | cells c e f=>rfl
  | _=>simp at h
end
section
variable {H:Type}{enc:TypeId×Value->H}{P:Program}{w:World}{base:Nat}{sp:Nat->Bool}{held:Bool}
abbrev inW (w:World):Nat->Prop:=λb=>b<w.heap.size
theorem Sz.of_trod {α:Type}{r:Rc α}{t e:TypeId}(ht:P.underlying t=ω (.slice e)) (hc:P.cellsOf e=r.size) (hpos:0<r.size)
  (he:∀n cs x,DataW.trod enc P w base sp held n e cs=ω x->∃a,r.rel (inW w) (fS w) (cs.map (dS (bg w))) a){fuel:Nat}{cs:List Value}{x:DataW H×List MemPlace}(h:DataW.trod enc P w base sp held fuel t cs=ω x) :
  ∃A n c A' K xs,cs = [ξ A n c]/\n<=maxLen/\dS (bg w) (ξ A n c) = ξ A' n K/\Sz r (inW w) (fS w) A' n K xs:=by
 rcases open_slice ht h with⟨hcs,hx⟩ | ⟨a,len,cap,m,n,D,Pl,hcs,hb,hl,hm,hmm,hx,hel⟩
 .exact⟨ψ,0,0,ψ,0,[],hcs,by unfold maxLen;omega,rfl,rfl,λh=>absurd h (Nat.lt_irrefl _)⟩
 .have hlm:len<=m:=by rw[hmm];split <;>omega
  have hel':∀i,i<len->∃y:List Value×α,w.cells? base (a.add (i*P.cellsOf e)) (P.cellsOf e)=ω y.1/\r.rel (inW w) (fS w) (y.1.map (dS (bg w))) y.2:=λi hi=>by
   obtain⟨cs',h1,h2⟩:=hel i U;obtain⟨z,hz⟩:=he _ _ _ h2;exact⟨(cs',z),h1,hz⟩
  rcases Nat.eq_zero_or_pos len with h0 | h0
  .subst h0;obtain⟨b,o,spot⟩:=a;have:∃A' K,dS (bg w) (ξ (ω ⟨b,o,spot⟩) 0 cap) = ξ A' 0 K:=by
    cases spot with
    | none=>
     show ∃A' K,cond (bg w b) (ξ (ω ⟨b,o,ψ⟩) 0 (cx cap)) (cond (Nat.beq 0 0) eG pQ)=_;cases bg w b with
     | true=>exact⟨_,_,rfl⟩
     | false=>exact⟨_,_,rfl⟩
    | some s=>exact⟨_,_,rfl⟩
   obtain⟨A',K,hi⟩:=this;exact⟨_,0,cap,A',K,[],hcs,by unfold maxLen;omega,hi,rfl,λh=>absurd h (Nat.lt_irrefl _)⟩
  .obtain⟨y0,-,-⟩:=hel' 0 h0
   haveI:Inhabited (List Value×α):=⟨y0⟩
   obtain⟨f,hf⟩:=choose_lt hel';obtain⟨b,o,spot⟩:=a;have hsz:∀i,i<len->(f i).1.length=r.size/\∀j,j<r.size->w.cell? ((Addr.mk b o spot).add (i*r.size+j))=(f i).1[j]?:=λi hi=>by
    obtain⟨h1,h2⟩:=hf i hi;rw[hc]at h1;obtain⟨-,h3,h4⟩:=World.cells?_some h1;exact⟨h3,λj hj=>by rw[<-h4 j hj,add_add]⟩
   have hspot:spot=none:=by
    obtain⟨h1,h2⟩:=hsz 0 h0;have h3:=h2 0 hpos;rw[List.getElem?_eq_getElem U]at h3;simpa[Addr.add]using World.cell?_spot h3
   subst hspot;have hfst:∃v,w.cell? ⟨b,o+(0*r.size+0),ψ⟩=ω v:=by
    obtain⟨h1,h2⟩:=hsz 0 h0;have h3:=h2 0 hpos;rw[List.getElem?_eq_getElem U,Addr.add_lit]at h3;exact⟨_,h3⟩
   obtain⟨v0,hv0⟩:=hfst;have hB:=CK hv0;have hlt:b<w.heap.size:=xN hv0;refine⟨ω ⟨b,o,ψ⟩,len,cap,ω ⟨b,o,ψ⟩,cx cap,(List.range len).map λi=>(f i).2,hcs,U,?_,by simp,λ_=>⟨b,o,rfl,hlt,hlt,λk x hk=>?_⟩⟩
   .show cond (bg w b) _ _=_;rw[hB];rfl
   .rw[List.getElem?_map]at hk;by_cases hkl:k<len
    .simp[hkl]at hk;subst hk;obtain⟨h1,h2⟩:=hsz k hkl;refine⟨(f k).1.map (dS (bg w)),λj u hu=>?_,(hf k hkl).2⟩;rw[List.getElem?_map]at hu;cases hj':(f k).1[j]? with
     | none=>rw[hj']at hu;cases hu
     | some u'=>
      rw[hj']at hu;obtain rfl:=Option.some.inj hu;have hj:j<r.size:=by rw[<-h1];exact(List.getElem?_eq_some_iff.1 hj').1
      refine FW ?_;rw[<-hj',<-h2 j hj,Addr.add_lit]
    .simp[hkl]at hk
theorem vk {k:IntKind}{t:TypeId}(ht:P.underlying t=ω (.int k)):∀n cs (x:DataW H×List MemPlace),DataW.trod enc P w base sp held n t cs=ω x->∃a,(Rc.int k).rel (inW w) (fS w) (cs.map (dS (bg w))) a:=λn cs x h=>by
 obtain⟨a,rfl,-,hw⟩:=DataW.trod_int ht h;exact⟨a,rfl⟩
theorem pI {α:Type}{r:Rc α}{t:TypeId}(h:∀n cs (x:DataW H×List MemPlace),DataW.trod enc P w base sp held n t cs=ω x->∃A n c A' K xs,cs = [ξ A n c]/\n<=maxLen/\dS (bg w) (ξ A n c) = ξ A' n K/\Sz r (inW w) (fS w) A' n K xs) :
  ∀n cs (x:DataW H×List MemPlace),DataW.trod enc P w base sp held n t cs=ω x->∃a,(Rc.sliceZ r).rel (inW w) (fS w) (cs.map (dS (bg w))) a:=λn cs x hx=>by
 obtain⟨A,n,c,A',K,xs,rfl,-,hi,hs⟩:=h n cs x hx;exact⟨xs,A',n,K,by rw[List.map_singleton,hi],hs⟩
theorem vm {k0 k1 k2:IntKind}{t:TypeId}{f0 f1 f2:Field}(hs:P.underlying t=ω (.struct #[f0,f1,f2])) (hone:oneCellFields P #[f0,f1,f2]=true) (hC:P.cellsOf t=3)
  (t0:P.underlying f0.type=ω (.int k0)) (t1:P.underlying f1.type=ω (.int k1)) (t2:P.underlying f2.type=ω (.int k2)) :
  ∀n cs (x:DataW H×List MemPlace),DataW.trod enc P w base sp held n t cs=ω x->∃a,(Rc.tri k0 k1 k2).rel (inW w) (fS w) (cs.map (dS (bg w))) a:=λn cs x h=>by
 obtain⟨v0,v1,v2,y0,y1,y2,n,rfl,h0,h1,h2⟩:=Bm hs hone hC h;obtain⟨a0,e0,-,w0⟩:=DataW.trod_int t0 h0;obtain⟨a1,e1,-,w1⟩:=DataW.trod_int t1 h1;obtain⟨a2,e2,-,w2⟩:=DataW.trod_int t2 h2;simp at e0 e1 e2;subst e0 e1 e2;exact⟨(a0,a1,a2),rfl⟩
theorem wZ {t u:TypeId}{f0 f1 f2:Field}(hs:P.underlying t=ω (.struct #[f0,f1,f2])) (hone:oneCellFields P #[f0,f1,f2]=true) (hC:P.cellsOf t=3)
  (t0:P.underlying f0.type=ω (.int .i64)) (t1:P.underlying f1.type=ω (.int .i64)) (t2:P.underlying f2.type=ω (.slice u)) (hu:P.underlying u=ω (.int .i64)) (cu:P.cellsOf u=1) :
  ∀n cs (x:DataW H×List MemPlace),DataW.trod enc P w base sp held n t cs=ω x->∃a,Rc.tableZ.rel (inW w) (fS w) (cs.map (dS (bg w))) a:=λn cs x h=>by
 obtain⟨v0,v1,v2,y0,y1,y2,n,rfl,h0,h1,h2⟩:=Bm hs hone hC h;obtain⟨a0,e0,-,w0⟩:=DataW.trod_int t0 h0;obtain⟨a1,e1,-,w1⟩:=DataW.trod_int t1 h1;obtain⟨A,m,c,A',K,zs,e2,-,hi,hsl⟩:=Sz.of_trod (r:=Rc.int .i64) t2 cu (by decide) (vk hu) h2;simp at e0 e1 e2;subst e0 e1 e2;exact⟨(a0,a1,zs),A',m,K,by simp only[List.map_cons,List.map_nil,hi];rfl,hsl⟩
end
end Eva
end
section
open Go Go.RowKit Go.ChangeShapes Go.WideShapes Go.ChangeAt Go.Joins
namespace Eva
section
variable {H:Type}{enc:TypeId×Value->H}{w:World}{base:Nat}{sp:Nat->Bool}{held:Bool}
set_option maxRecDepth 100000 in
theorem netZ_opens {r:Reach}{b0:Nat}{v:Value}{d:DataW H}{p:List MemPlace}(hv:Value.okWide Tryz.prog w r b0 26 v) (h:DataW.Trod enc Tryz.prog w base sp held 26 v d p) :
  ∃u0 u1 u2 A0 n0 K0 A1 n1 K1 A2 n2 K2 N,v = .agg #[u0,u1,u2]/\dS (bg w) u0 = ξ A0 n0 K0/\dS (bg w) u1 = ξ A1 n1 K1/\dS (bg w) u2 = ξ A2 n2 K2/\cq (fS w) (inW w) A0 n0 K0 A1 n1 K1 A2 n2 K2 N:=by
 obtain⟨v0,v1,v2,y0,y1,y2,n,rfl,-,-,h0,h1,h2⟩:=open_agg3 Tryz.underlying26 (by kernel_rfl) (by kernel_rfl) hv h;obtain⟨A0,n0,c0,B0,K0,verts,e0,-,i0,s0⟩:=Sz.of_trod (r:=Rc.tri .i64 .i64 .i64) Tryz.underlying22 (by kernel_rfl) (by decide) (vm Tryz.underlying130 (by kernel_rfl) (by kernel_rfl) Tryz.underlying3 Tryz.underlying3 Tryz.underlying3) h0;obtain⟨A1,n1,c1,B1,K1,arcs,e1,-,i1,s1⟩:=Sz.of_trod (r:=Rc.tri .i64 .i64 .i64) Tryz.underlying23 (by kernel_rfl) (by decide) (vm Tryz.underlying124 (by kernel_rfl) (by kernel_rfl) Tryz.underlying3 Tryz.underlying3 Tryz.underlying2) h1;obtain⟨A2,n2,c2,B2,K2,types,e2,-,i2,s2⟩:=Sz.of_trod (r:=Rc.tableZ) Tryz.underlying24 (by kernel_rfl) (by decide) (wZ Tryz.underlying128 (by kernel_rfl) (by kernel_rfl) Tryz.underlying3 Tryz.underlying3 Tryz.underlying37 Tryz.underlying2 (by kernel_rfl)) h2;simp only[List.cons.injEq,and_true]at e0 e1 e2;subst e0 e1 e2;exact⟨_,_,_,_,_,_,_,_,_,_,_,_,⟨verts,arcs,types⟩,rfl,i0,i1,i2,s0,s1,s2⟩
set_option maxRecDepth 100000 in
theorem partZ_opens {r:Reach}{b0:Nat}{v:Value}{d:DataW H}{p:List MemPlace}(hv:Value.okWide Tryz.prog w r b0 29 v) (h:DataW.Trod enc Tryz.prog w base sp held 29 v d p) :
  ∃u A n K ps,v = .agg #[u]/\n<=maxLen/\dS (bg w) u = ξ A n K/\Sz (Rc.sliceZ cI) (inW w) (fS w) A n K ps:=by
 obtain⟨cs,rfl,hsz⟩:=okWide_struct Tryz.underlying29 hv;have hc:Tryz.prog.cellsOf 29=1:=by kernel_rfl
 have hc2:Tryz.prog.cellsOf 27=1:=by kernel_rfl
 rw[hc]at hsz;obtain⟨l⟩:=cs
 match l,hsz with
 | [v0],_=>
  obtain⟨fuel,hf⟩:=h;obtain⟨xs,n,-,-,-,hl,hx⟩:=DataW.trod_struct Tryz.underlying29 hf
  match xs,hl with
  | [y0],_=>
   have h0:DataW.trod enc Tryz.prog w base sp held n 27 (List.take (Tryz.prog.cellsOf 27) [v0])=ω y0:=hx 0 _ rfl;rw[hc2]at h0;obtain⟨A,m,c,B,K,ps,e0,hm,i0,s0⟩:=Sz.of_trod (r:=Rc.sliceZ cI) Tryz.underlying27 (by kernel_rfl) (by decide)
    (pI λn cs x hh=>Sz.of_trod (r:=cI) Tryz.underlying48 (by kernel_rfl) (by decide) (vk Tryz.underlying3) hh) (by simpa using h0)
   simp only[List.cons.injEq,and_true]at e0;subst e0;exact⟨_,B,m,K,ps,rfl,hm,i0,s0⟩
end
end Eva
end
section
open Go Go.RowKit Go.ChangeShapes Go.WideShapes Go.Deep Go.Joins Go.ChangeAt
namespace Eva
section
variable {H:Type}{enc:TypeId×Value->H}{P:Program}{w:World}{base:Nat}{sp:Nat->Bool}{held:Bool}
theorem CM {t:TypeId}{f0 f1 f2 f3 f4:Field}(hs:P.underlying t=ω (.struct #[f0,f1,f2,f3,f4])) (hone:oneCellFields P #[f0,f1,f2,f3,f4]=true) (hC:P.cellsOf t=5)
  (t0:P.underlying f0.type=ω (.int .i64)) (t1:P.underlying f1.type=ω (.int .i64)) (t2:P.underlying f2.type=ω (.int .i64)) (t3:P.underlying f3.type=ω (.int .i64)) (t4:P.underlying f4.type=ω (.int .i64)) :
  ∀n cs (x:DataW H×List MemPlace),DataW.trod enc P w base sp held n t cs=ω x->∃a,dQ.rel (inW w) (fS w) (cs.map (dS (bg w))) a:=λn cs x h=>by
 obtain⟨xs,n,-,-,hl,hxl,hx⟩:=DataW.trod_struct hs h;rw[hC]at hl;obtain⟨o0,c0⟩:=hone_of hone 0 f0 rfl;obtain⟨o1,c1⟩:=hone_of hone 1 f1 rfl;obtain⟨o2,c2⟩:=hone_of hone 2 f2 rfl;obtain⟨o3,c3⟩:=hone_of hone 3 f3 rfl;obtain⟨o4,c4⟩:=hone_of hone 4 f4 rfl
 match cs,hl with
 | [v0,v1,v2,v3,v4],_=>
  match xs,hxl with
  | [y0,y1,y2,y3,y4],_=>
   have h0:=hx 0 f0 rfl;have h1:=hx 1 f1 rfl;have h2:=hx 2 f2 rfl;have h3:=hx 3 f3 rfl;have h4:=hx 4 f4 rfl;simp[o0,o1,o2,o3,o4,c0,c1,c2,c3,c4]at h0 h1 h2 h3 h4;obtain⟨a0,e0,-,w0⟩:=DataW.trod_int t0 h0;obtain⟨a1,e1,-,w1⟩:=DataW.trod_int t1 h1;obtain⟨a2,e2,-,w2⟩:=DataW.trod_int t2 h2;obtain⟨a3,e3,-,w3⟩:=DataW.trod_int t3 h3;obtain⟨a4,e4,-,w4⟩:=DataW.trod_int t4 h4;simp at e0 e1 e2 e3 e4;subst e0 e1 e2 e3 e4;exact⟨(a0,a1,a2,a3,a4),rfl⟩
set_option maxRecDepth 100000 in
theorem batchesZ_opens {r:Reach}{b0:Nat}{v:Value}{d:DataW H}{p:List MemPlace}(hv:Value.okWide Tryz.prog w r b0 30 v) (h:DataW.Trod enc Tryz.prog w base sp held 30 v d p) :
  ∃A n K xs,n<=maxLen/\dS (bg w) v = ξ A n K/\Sz (Rc.sliceZ dQ) (inW w) (fS w) A n K xs:=by
 obtain⟨a,n0,c0,rfl⟩:=okWide_slice Tryz.underlying30 hv;obtain⟨fuel,hf⟩:=h;obtain⟨A,m,c,B,K,ps,e0,hm,i0,s0⟩:=Sz.of_trod (r:=Rc.sliceZ dQ) Tryz.underlying30 (by kernel_rfl) (by decide)
  (pI λn cs x hh=>Sz.of_trod (r:=dQ) Tryz.underlying62 (by kernel_rfl) (by decide) (CM Tryz.underlying61 (by kernel_rfl) (by kernel_rfl) Tryz.underlying3 Tryz.underlying3 Tryz.underlying3 Tryz.underlying3 Tryz.underlying2) hh) hf
 simp only[Value.cells,List.cons.injEq,and_true]at e0;rw[e0];exact⟨B,m,K,ps,hm,i0,s0⟩
end
end Eva
end
end Go.Proofs.YtmbadhdpcdbdbaaGreatDoor
