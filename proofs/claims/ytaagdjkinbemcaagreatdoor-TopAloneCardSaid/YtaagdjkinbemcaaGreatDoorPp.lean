/-
Lemmas for TopAlone. No condition.
-/
import Derived.Test.YtaagdjkinbemcaaGreatDoorPj
import Derived.Test.YtaagdjkinbemcaaGreatDoorPh
import Derived.Test.YtaagdjkinbemcaaGreatDoorPk
import Derived.WalkKit
import Derived.OpenShut
import Derived.Test.YtaagdjkinbemcaaGreatDoorPm
namespace Go.Proofs.YtaagdjkinbemcaaGreatDoor
open _root_.Go.Value renaming pointer->ψ,slice->ω
open _root_.Option renaming none->ξ,some->Y
set_option linter.unusedVariables false
set_option linter.unusedSimpArgs false
set_option linter.unusedSectionVars false
set_option linter.unnecessarySimpa false
section
open Go Go.RowKit Go.ChangeShapes Go.WideShapes Go.Deep Go.Joins
namespace Eva
def a7 (w:World) (b:Nat):Bool:=match w.heap[b]? with
 | some (.cells _ _ _)=>true
 | _=>false
def dA (C:Nat->Bool):Value->Value
 | .bool b=>.bool b
 | .int k n=>.int k n
 | .string x=>.string x
 | ψ ξ=>ψ ξ
 | ω ξ 0 0=>ω ξ 0 0
 | ω (Y ⟨b,o,ξ⟩) n c=>cond (C b) (ω (Y ⟨b,o,ξ⟩) n (cx c)) (cond (Nat.beq n 0) eS rz)
 | .slice (Y _) 0 _=>eS
 | _=>rz
def vn (w:World):aH:=⟨λn=>cond (a7 w n) (Y n) ξ,λ_=>0⟩
theorem d9 {w:World}{n b:Nat}(h:vn w n=Y b):b=n/\∃c e f,w.heap[n]? = Y (.cells c e f):=by
 unfold vn at h;simp only at h;cases hc:a7 w n with
 | false=>rw[hc]at h;cases h
 | true=>
  rw[hc]at h;injection h with h;refine⟨h.symm,?_⟩;unfold a7 at hc
  split at hc
  .rename_i c e f hg;exact⟨c,e,f,hg⟩
  .cases hc
theorem AI {w:World}{n:Nat}(h:a7 w n=true):vn w n=Y n:=by
 unfold vn;simp only[h,cond_true]
theorem iJ (w:World) (v:Value):VR (vn w) (dA (a7 w) v) v:=by
 unfold dA
 split
 .exact .bool _
 .exact .int _ _
 .exact .string _
 .exact .ptr0
 .exact .sl0
 .rename_i b o n c;cases hc:a7 w b with
  | true=>
   refine .sl (AI hc) (CR.cx c) λh=>?_;unfold cx at h;omega
  | false=>
   cases hn:Nat.beq n 0 with
   | true=>
    have:=aq hn;subst this;exact .far
   | false=>exact .any _ rfl
 .exact .far
 .rename_i h1 _ _ _ _ _ _;refine .any _ ?_;unfold Hj
  split
  .exact absurd rfl (h1 _)
  .rfl
def rW (w:World) (n:Nat):Option AO:=match w.heap[n]? with
 | some (.cells c e _)=>Y (.cells (c.toList.map (dA (a7 w))) e true)
 | _=>ξ
noncomputable def EP (w:World):Nat->Tr AO
 | 0=>.nil
 | n+1=>(EP w n).set n (rW w n)
noncomputable def eY (w:World):AH:=⟨w.heap.size,EP w w.heap.size⟩
theorem xE (w:World) (b:Nat):∀n,(EP w n).get b=if b<n then rW w b else ξ
 | 0=>by rw[if_neg (Nat.not_lt_zero _)];rfl
 | n+1=>by
  show((EP w n).set n (rW w n)).get b=_;by_cases e:b=n
  .subst e;rw[Tr.get_set,if_pos (Nat.lt_succ_self _)]
  .rw[Tr.get_set_ne _ _ (λh=>e h.symm),xE w b n];by_cases h:b<n
   .rw[if_pos h,if_pos U]
   .rw[if_neg h,if_neg U]
theorem js (w:World) (b:Nat):(eY w).get b=rW w b:=by
 show(EP w w.heap.size).get b=_;rw[xE];by_cases h:b<w.heap.size
 .rw[if_pos h]
 .rw[if_neg h];unfold rW;rw[Array.getElem?_eq_none U]
theorem Ir (P:Program) (w:World) (hH:w.cell? ⟨0,0,ξ⟩=Y (.iface 284 (.agg #[ψ (Y ⟨7,53,ξ⟩)]))):HR P (vn w) (eY w) w where
 lt:=λn b h=>by
  obtain⟨rfl,c,e,f,hg⟩:=d9 h;have:=(Array.getElem?_eq_some_iff.1 hg).1;exact⟨this,this⟩
 obj:=λn b o h ho=>by
  obtain⟨rfl,c,e,f,hg⟩:=d9 h;rw[js]at ho;unfold rW at ho;rw[hg]at ho;injection ho with ho;subst ho;refine⟨_,hg,.cells (λi v hv=>?_) (λh=>by cases h) (λi _=>by simp[vn])⟩;rw[List.getElem?_map]at hv;cases hc:c.toList[i]? with
  | none=>rw[hc]at hv;cases hv
  | some v'=>
   rw[hc]at hv;injection hv with hv;subst hv;exact⟨v',by simpa using hc,iJ w v'⟩
 inj:=λn m b o p h k _ _=>by
  obtain⟨rfl,_⟩:=d9 h;exact(d9 k).1
 none:=λn hn=>by
  rw[js];unfold rW;rw[Array.getElem?_eq_none hn]
 inv:=⟨hH,λn o h ho=>by
  obtain⟨rfl,c,e,f,hg⟩:=d9 h;rw[js]at ho;unfold rW at ho;rw[hg]at ho;injection ho with ho;exact⟨_,_,ho.symm⟩⟩
theorem Gw {P:Program}{w w':World}{σ':aH}{h':AH}(s:St P (vn w) (eY w) w σ' h' w'):eN w w':=by
 refine⟨s.os,s.tape,s.output.1,s.size,λb hb=>?_⟩;cases hc:a7 w b with
 | true=>
  have h1:=AI hc;obtain⟨-,c,e,f,hg⟩:=d9 h1;have h2:(eY w).get b=Y (.cells (c.toList.map (dA (a7 w))) e true):=by
   rw[js];unfold rW;rw[hg]
  exact(s.ro b b _ _ h1 h2).2
 | false=>
  refine s.frame b hb λn hn=>?_;obtain⟨rfl,c,e,f,hg⟩:=d9 hn;unfold a7 at hc;rw[hg]at hc;cases hc
section
variable {w:World}
theorem Is {b o:Nat}{v:Value}(h:w.cell? ⟨b,o,ξ⟩=Y v):ldC (eY w) b o=Y (dA (a7 w) v):=by
 unfold World.cell? at h;simp only at h;have hlt:b<w.heap.size:=by
  rcases Nat.lt_or_ge b w.heap.size with h1 | h1
  .exact h1
  .rw[Array.getElem?_eq_none h1]at h;cases h
 cases hg:w.heap[b]? with
 | none=>rw[hg]at h;cases h
 | some ob=>
  rw[hg]at h;cases ob with
  | cells c e f=>
   have h1:c[o]? = Y v:=by simpa using h
   have h2:(eY w).get b=Y (.cells (c.toList.map (dA (a7 w))) e true):=by
    rw[js];unfold rW;rw[hg]
   rw[aJ h2,List.getElem?_map,Array.getElem?_toList,h1];rfl
  | _=>simp at h
theorem EQ {b o:Nat}{v:Value}(h:w.cell? ⟨b,o,ξ⟩=Y v):a7 w b=true:=by
 unfold World.cell? at h;simp only at h;unfold a7;cases hg:w.heap[b]? with
 | none=>rw[hg]at h;cases h
 | some ob=>
  rw[hg]at h;cases ob with
  | cells c e f=>rfl
  | _=>simp at h
end
section
variable {H:Type}{enc:TypeId×Value->H}{P:Program}{w:World}{base:Nat}{sp:Nat->Bool}{held:Bool}
abbrev inW (w:World):Nat->Prop:=λb=>b<w.heap.size
theorem Sz.of_trod {α:Type}{r:Rc α}{t e:TypeId}(ht:P.underlying t=Y (.slice e)) (hc:P.cellsOf e=r.size) (hpos:0<r.size)
  (he:∀n cs x,DataW.trod enc P w base sp held n e cs=Y x->∃a,r.rel (inW w) (eY w) (cs.map (dA (a7 w))) a){fuel:Nat}{cs:List Value}{x:DataW H×List MemPlace}(h:DataW.trod enc P w base sp held fuel t cs=Y x) :
  ∃A n c A' K xs,cs = [ω A n c]/\n<=maxLen/\dA (a7 w) (ω A n c) = ω A' n K/\Sz r (inW w) (eY w) A' n K xs:=by
 rcases open_slice ht h with⟨hcs,hx⟩ | ⟨a,len,cap,m,n,D,Pl,hcs,hb,hl,hm,hmm,hx,hel⟩
 .exact⟨ξ,0,0,ξ,0,[],hcs,by unfold maxLen;omega,rfl,rfl,λh=>absurd h (Nat.lt_irrefl _)⟩
 .have hlm:len<=m:=by rw[hmm];split <;>omega
  have hel':∀i,i<len->∃y:List Value×α,w.cells? base (a.add (i*P.cellsOf e)) (P.cellsOf e)=Y y.1/\r.rel (inW w) (eY w) (y.1.map (dA (a7 w))) y.2:=λi hi=>by
   obtain⟨cs',h1,h2⟩:=hel i U;obtain⟨z,hz⟩:=he _ _ _ h2;exact⟨(cs',z),h1,hz⟩
  rcases Nat.eq_zero_or_pos len with h0 | h0
  .subst h0;obtain⟨b,o,spot⟩:=a;have:∃A' K,dA (a7 w) (ω (Y ⟨b,o,spot⟩) 0 cap) = ω A' 0 K:=by
    cases spot with
    | none=>
     show ∃A' K,cond (a7 w b) (ω (Y ⟨b,o,ξ⟩) 0 (cx cap)) (cond (Nat.beq 0 0) eS rz)=_;cases a7 w b with
     | true=>exact⟨_,_,rfl⟩
     | false=>exact⟨_,_,rfl⟩
    | some s=>exact⟨_,_,rfl⟩
   obtain⟨A',K,hi⟩:=this;exact⟨_,0,cap,A',K,[],hcs,by unfold maxLen;omega,hi,rfl,λh=>absurd h (Nat.lt_irrefl _)⟩
  .obtain⟨y0,-,-⟩:=hel' 0 h0
   haveI:Inhabited (List Value×α):=⟨y0⟩
   obtain⟨f,hf⟩:=choose_lt hel';obtain⟨b,o,spot⟩:=a;have hsz:∀i,i<len->(f i).1.length=r.size/\∀j,j<r.size->w.cell? ((Addr.mk b o spot).add (i*r.size+j))=(f i).1[j]?:=λi hi=>by
    obtain⟨h1,h2⟩:=hf i hi;rw[hc]at h1;obtain⟨-,h3,h4⟩:=World.cells?_some h1;exact⟨h3,λj hj=>by rw[<-h4 j hj,add_add]⟩
   have hspot:spot=none:=by
    obtain⟨h1,h2⟩:=hsz 0 h0;have h3:=h2 0 hpos;rw[List.getElem?_eq_getElem U]at h3;simpa[Addr.add]using World.cell?_spot h3
   subst hspot;have hfst:∃v,w.cell? ⟨b,o+(0*r.size+0),ξ⟩=Y v:=by
    obtain⟨h1,h2⟩:=hsz 0 h0;have h3:=h2 0 hpos;rw[List.getElem?_eq_getElem U,Addr.add_lit]at h3;exact⟨_,h3⟩
   obtain⟨v0,hv0⟩:=hfst;have hB:=EQ hv0;have hlt:b<w.heap.size:=FM hv0;refine⟨Y ⟨b,o,ξ⟩,len,cap,Y ⟨b,o,ξ⟩,cx cap,(List.range len).map λi=>(f i).2,hcs,U,?_,by simp,λ_=>⟨b,o,rfl,hlt,hlt,λk x hk=>?_⟩⟩
   .show cond (a7 w b) _ _=_;rw[hB];rfl
   .rw[List.getElem?_map]at hk;by_cases hkl:k<len
    .simp[hkl]at hk;subst hk;obtain⟨h1,h2⟩:=hsz k hkl;refine⟨(f k).1.map (dA (a7 w)),λj u hu=>?_,(hf k hkl).2⟩;rw[List.getElem?_map]at hu;cases hj':(f k).1[j]? with
     | none=>rw[hj']at hu;cases hu
     | some u'=>
      rw[hj']at hu;obtain rfl:=Option.some.inj hu;have hj:j<r.size:=by rw[<-h1];exact(List.getElem?_eq_some_iff.1 hj').1
      refine Is ?_;rw[<-hj',<-h2 j hj,Addr.add_lit]
    .simp[hkl]at hk
theorem xF {k:IntKind}{t:TypeId}(ht:P.underlying t=Y (.int k)):∀n cs (x:DataW H×List MemPlace),DataW.trod enc P w base sp held n t cs=Y x->∃a,(Rc.int k).rel (inW w) (eY w) (cs.map (dA (a7 w))) a:=λn cs x h=>by
 obtain⟨a,rfl,-,hw⟩:=DataW.trod_int ht h;exact⟨a,rfl⟩
theorem rm {α:Type}{r:Rc α}{t:TypeId}(h:∀n cs (x:DataW H×List MemPlace),DataW.trod enc P w base sp held n t cs=Y x->∃A n c A' K xs,cs = [ω A n c]/\n<=maxLen/\dA (a7 w) (ω A n c) = ω A' n K/\Sz r (inW w) (eY w) A' n K xs) :
  ∀n cs (x:DataW H×List MemPlace),DataW.trod enc P w base sp held n t cs=Y x->∃a,(Rc.sliceZ r).rel (inW w) (eY w) (cs.map (dA (a7 w))) a:=λn cs x hx=>by
 obtain⟨A,n,c,A',K,xs,rfl,-,hi,hs⟩:=h n cs x hx;exact⟨xs,A',n,K,by rw[List.map_singleton,hi],hs⟩
theorem xG {k0 k1 k2:IntKind}{t:TypeId}{f0 f1 f2:Field}(hs:P.underlying t=Y (.struct #[f0,f1,f2])) (hone:oneCellFields P #[f0,f1,f2]=true) (hC:P.cellsOf t=3)
  (t0:P.underlying f0.type=Y (.int k0)) (t1:P.underlying f1.type=Y (.int k1)) (t2:P.underlying f2.type=Y (.int k2)) :
  ∀n cs (x:DataW H×List MemPlace),DataW.trod enc P w base sp held n t cs=Y x->∃a,(Rc.tri k0 k1 k2).rel (inW w) (eY w) (cs.map (dA (a7 w))) a:=λn cs x h=>by
 obtain⟨v0,v1,v2,y0,y1,y2,n,rfl,h0,h1,h2⟩:=DJ hs hone hC h;obtain⟨a0,e0,-,w0⟩:=DataW.trod_int t0 h0;obtain⟨a1,e1,-,w1⟩:=DataW.trod_int t1 h1;obtain⟨a2,e2,-,w2⟩:=DataW.trod_int t2 h2;simp at e0 e1 e2;subst e0 e1 e2;exact⟨(a0,a1,a2),rfl⟩
theorem zi {t u:TypeId}{f0 f1 f2:Field}(hs:P.underlying t=Y (.struct #[f0,f1,f2])) (hone:oneCellFields P #[f0,f1,f2]=true) (hC:P.cellsOf t=3)
  (t0:P.underlying f0.type=Y (.int .i64)) (t1:P.underlying f1.type=Y (.int .i64)) (t2:P.underlying f2.type=Y (.slice u)) (hu:P.underlying u=Y (.int .i64)) (cu:P.cellsOf u=1) :
  ∀n cs (x:DataW H×List MemPlace),DataW.trod enc P w base sp held n t cs=Y x->∃a,Rc.tableZ.rel (inW w) (eY w) (cs.map (dA (a7 w))) a:=λn cs x h=>by
 obtain⟨v0,v1,v2,y0,y1,y2,n,rfl,h0,h1,h2⟩:=DJ hs hone hC h;obtain⟨a0,e0,-,w0⟩:=DataW.trod_int t0 h0;obtain⟨a1,e1,-,w1⟩:=DataW.trod_int t1 h1;obtain⟨A,m,c,A',K,zs,e2,-,hi,hsl⟩:=Sz.of_trod (r:=Rc.int .i64) t2 cu (by decide) (xF hu) h2;simp at e0 e1 e2;subst e0 e1 e2;exact⟨(a0,a1,zs),A',m,K,by simp only[List.map_cons,List.map_nil,hi];rfl,hsl⟩
end
end Eva
end
section
open Go Go.RowKit Go.ChangeShapes Go.WideShapes Go.ChangeAt Go.Joins
namespace Eva
section
variable {H:Type}{enc:TypeId×Value->H}{w:World}{base:Nat}{sp:Nat->Bool}{held:Bool}
set_option maxRecDepth 100000 in
theorem netZ_opens {r:Reach}{b0:Nat}{v:Value}{d:DataW H}{p:List MemPlace}(hv:Value.okWide Tryz.prog w r b0 26 v) (h:DataW.Trod enc Tryz.prog w base sp held 26 v d p) :
  ∃u0 u1 u2 A0 n0 K0 A1 n1 K1 A2 n2 K2 N,v = .agg #[u0,u1,u2]/\dA (a7 w) u0 = ω A0 n0 K0/\dA (a7 w) u1 = ω A1 n1 K1/\dA (a7 w) u2 = ω A2 n2 K2/\jr (eY w) (inW w) A0 n0 K0 A1 n1 K1 A2 n2 K2 N:=by
 obtain⟨v0,v1,v2,y0,y1,y2,n,rfl,-,-,h0,h1,h2⟩:=open_agg3 Tryz.underlying26 (by kernel_rfl) (by kernel_rfl) hv h;obtain⟨A0,n0,c0,B0,K0,verts,e0,-,i0,s0⟩:=Sz.of_trod (r:=Rc.tri .i64 .i64 .i64) Tryz.underlying22 (by kernel_rfl) (by decide) (xG Tryz.underlying112 (by kernel_rfl) (by kernel_rfl) Tryz.underlying3 Tryz.underlying3 Tryz.underlying3) h0;obtain⟨A1,n1,c1,B1,K1,arcs,e1,-,i1,s1⟩:=Sz.of_trod (r:=Rc.tri .i64 .i64 .i64) Tryz.underlying23 (by kernel_rfl) (by decide) (xG Tryz.underlying114 (by kernel_rfl) (by kernel_rfl) Tryz.underlying3 Tryz.underlying3 Tryz.underlying2) h1;obtain⟨A2,n2,c2,B2,K2,types,e2,-,i2,s2⟩:=Sz.of_trod (r:=Rc.tableZ) Tryz.underlying24 (by kernel_rfl) (by decide) (zi Tryz.underlying110 (by kernel_rfl) (by kernel_rfl) Tryz.underlying3 Tryz.underlying3 Tryz.underlying43 Tryz.underlying2 (by kernel_rfl)) h2;simp only[List.cons.injEq,and_true]at e0 e1 e2;subst e0 e1 e2;exact⟨_,_,_,_,_,_,_,_,_,_,_,_,⟨verts,arcs,types⟩,rfl,i0,i1,i2,s0,s1,s2⟩
set_option maxRecDepth 100000 in
theorem partZ_opens {r:Reach}{b0:Nat}{v:Value}{d:DataW H}{p:List MemPlace}(hv:Value.okWide Tryz.prog w r b0 29 v) (h:DataW.Trod enc Tryz.prog w base sp held 29 v d p) :
  ∃u A n K ps,v = .agg #[u]/\n<=maxLen/\dA (a7 w) u = ω A n K/\Sz (Rc.sliceZ cI) (inW w) (eY w) A n K ps:=by
 obtain⟨cs,rfl,hsz⟩:=okWide_struct Tryz.underlying29 hv;have hc:Tryz.prog.cellsOf 29=1:=by kernel_rfl
 have hc2:Tryz.prog.cellsOf 27=1:=by kernel_rfl
 rw[hc]at hsz;obtain⟨l⟩:=cs
 match l,hsz with
 | [v0],_=>
  obtain⟨fuel,hf⟩:=h;obtain⟨xs,n,-,-,-,hl,hx⟩:=DataW.trod_struct Tryz.underlying29 hf
  match xs,hl with
  | [y0],_=>
   have h0:DataW.trod enc Tryz.prog w base sp held n 27 (List.take (Tryz.prog.cellsOf 27) [v0])=Y y0:=hx 0 _ rfl;rw[hc2]at h0;obtain⟨A,m,c,B,K,ps,e0,hm,i0,s0⟩:=Sz.of_trod (r:=Rc.sliceZ cI) Tryz.underlying27 (by kernel_rfl) (by decide)
    (rm λn cs x hh=>Sz.of_trod (r:=cI) Tryz.underlying58 (by kernel_rfl) (by decide) (xF Tryz.underlying3) hh) (by simpa using h0)
   simp only[List.cons.injEq,and_true]at e0;subst e0;exact⟨_,B,m,K,ps,rfl,hm,i0,s0⟩
end
end Eva
end
section
open Go Go.RowKit Go.ChangeShapes Go.WideShapes Go.Deep Go.Joins Go.ChangeAt
namespace Eva
section
variable {H:Type}{enc:TypeId×Value->H}{P:Program}{w:World}{base:Nat}{sp:Nat->Bool}{held:Bool}
theorem ES {t:TypeId}{f0 f1 f2 f3 f4:Field}(hs:P.underlying t=Y (.struct #[f0,f1,f2,f3,f4])) (hone:oneCellFields P #[f0,f1,f2,f3,f4]=true) (hC:P.cellsOf t=5)
  (t0:P.underlying f0.type=Y (.int .i64)) (t1:P.underlying f1.type=Y (.int .i64)) (t2:P.underlying f2.type=Y (.int .i64)) (t3:P.underlying f3.type=Y (.int .i64)) (t4:P.underlying f4.type=Y (.int .i64)) :
  ∀n cs (x:DataW H×List MemPlace),DataW.trod enc P w base sp held n t cs=Y x->∃a,gm.rel (inW w) (eY w) (cs.map (dA (a7 w))) a:=λn cs x h=>by
 obtain⟨xs,n,-,-,hl,hxl,hx⟩:=DataW.trod_struct hs h;rw[hC]at hl;obtain⟨o0,c0⟩:=hone_of hone 0 f0 rfl;obtain⟨o1,c1⟩:=hone_of hone 1 f1 rfl;obtain⟨o2,c2⟩:=hone_of hone 2 f2 rfl;obtain⟨o3,c3⟩:=hone_of hone 3 f3 rfl;obtain⟨o4,c4⟩:=hone_of hone 4 f4 rfl
 match cs,hl with
 | [v0,v1,v2,v3,v4],_=>
  match xs,hxl with
  | [y0,y1,y2,y3,y4],_=>
   have h0:=hx 0 f0 rfl;have h1:=hx 1 f1 rfl;have h2:=hx 2 f2 rfl;have h3:=hx 3 f3 rfl;have h4:=hx 4 f4 rfl;simp[o0,o1,o2,o3,o4,c0,c1,c2,c3,c4]at h0 h1 h2 h3 h4;obtain⟨a0,e0,-,w0⟩:=DataW.trod_int t0 h0;obtain⟨a1,e1,-,w1⟩:=DataW.trod_int t1 h1;obtain⟨a2,e2,-,w2⟩:=DataW.trod_int t2 h2;obtain⟨a3,e3,-,w3⟩:=DataW.trod_int t3 h3;obtain⟨a4,e4,-,w4⟩:=DataW.trod_int t4 h4;simp at e0 e1 e2 e3 e4;subst e0 e1 e2 e3 e4;exact⟨(a0,a1,a2,a3,a4),rfl⟩
set_option maxRecDepth 100000 in
theorem batchesZ_opens {r:Reach}{b0:Nat}{v:Value}{d:DataW H}{p:List MemPlace}(hv:Value.okWide Tryz.prog w r b0 30 v) (h:DataW.Trod enc Tryz.prog w base sp held 30 v d p) :
  ∃A n K xs,n<=maxLen/\dA (a7 w) v = ω A n K/\Sz (Rc.sliceZ gm) (inW w) (eY w) A n K xs:=by
 obtain⟨a,n0,c0,rfl⟩:=okWide_slice Tryz.underlying30 hv;obtain⟨fuel,hf⟩:=h;obtain⟨A,m,c,B,K,ps,e0,hm,i0,s0⟩:=Sz.of_trod (r:=Rc.sliceZ gm) Tryz.underlying30 (by kernel_rfl) (by decide)
  (rm λn cs x hh=>Sz.of_trod (r:=gm) Tryz.underlying66 (by kernel_rfl) (by decide) (ES Tryz.underlying65 (by kernel_rfl) (by kernel_rfl) Tryz.underlying3 Tryz.underlying3 Tryz.underlying3 Tryz.underlying3 Tryz.underlying2) hh) hf
 simp only[Value.cells,List.cons.injEq,and_true]at e0;rw[e0];exact⟨B,m,K,ps,hm,i0,s0⟩
end
end Eva
end
end Go.Proofs.YtaagdjkinbemcaaGreatDoor
