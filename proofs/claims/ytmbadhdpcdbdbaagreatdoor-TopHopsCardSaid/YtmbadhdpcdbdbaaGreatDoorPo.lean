/-
Lemmas for TopHops. No condition.
-/
import Derived.Test.YtmbadhdpcdbdbaaGreatDoorPn
import Derived.Test.YtmbadhdpcdbdbaaGreatDoorPj
import Derived.Test.YtmbadhdpcdbdbaaGreatDoorPm
import Derived.Test.YtmbadhdpcdbdbaaGreatDoorPi
import Derived.Test.YtmbadhdpcdbdbaaGreatDoorPg
namespace Go.Proofs.YtmbadhdpcdbdbaaGreatDoor
open _root_.Go.IntKind renaming i64->η
open _root_.Go.Value renaming int->ψ,pointer->μ,slice->ω
open _root_.Option renaming none->ν,some->ξ
set_option linter.unusedVariables false
set_option linter.unusedSimpArgs false
set_option linter.unusedSectionVars false
set_option linter.unnecessarySimpa false
section
open Go Go.RowKit
namespace Eva
section
variable {h h':AH}{F Fl:Nat->Prop}{Q:Value->AH->Prop}{A Av Aa At:Option Addr}{n K nv Kv na Ka nt Kt:Nat}{N:ab}{xs:List dV}
theorem FL (Z0:cq h F Av nv Kv Aa na Ka At nt Kt N){x:dV}(hK:∀(e:Int) h',Nw h h'->(e=0↔el N x)->Q (ψ η e) h') :
  WC Tryz.prog 75 [.agg #[ω Av nv Kv,ω Aa na Ka,ω At nt Kt],.agg #[ψ η x.1,ψ η x.2.1,ψ η x.2.2.1,ψ η x.2.2.2.1,ψ η x.2.2.2.2]] h Q:=by
 have Z:=Z0.old;have la:N.na=na:=Z.xa.len;have lt:N.ts.length=nt:=Z.ts.len;obtain⟨kd,at_,ci,co,w⟩:=x;refine um λh1 e1 h2 e2=>?_;obtain⟨k1,g1,z1⟩:=aj e1;obtain⟨k2,g2,z2⟩:=aj e2;have k12:=k1.trans k2;have g12:=k2.bk U g1;have q:∀{h'}(a:Nw h2 h'){j v},[Value.int .i64 kd,ψ η at_,ψ η ci,ψ η co,ψ η w][j]? = ξ v->ldC h' h1.next j=ξ v:=fun {h'} a {j v} hj=>aa (a.bk U g2) hj;have t2:ldC h2 h.next 2=ξ (ω At nt Kt):=aa g12 rfl;have bN:au h2 h.next 0 3=ξ [ω Av nv Kv,ω Aa na Ka,ω At nt Kt]:=aK (aa g12 rfl) (aa g12 rfl) t2;have bad:∀(e:Int) h',Nw h h'->e≠0->¬el N (kd,at_,ci,co,w)->Q (ψ η e) h':=λe h' k he hn=>hK e h' k ⟨λh=>absurd h he,λB=>absurd B hn⟩;refine⟨kd,q (Nw.refl _) (j:=0) rfl,λc1=>?_,λc1=>⟨λc2=>?_,λc2=>bad 1 h2 k12 U λB=>B.is.elim (λh=>c1 h.1) (λh=>c2 h.1)⟩⟩
 .subst c1;have no:∀{e:Int}{h'},Nw h h'->e≠0->¬(0<=at_/\at_<N.na/\ci=0/\co=0)->Q (ψ η e) h':=fun {e h'} k he hn=>bad e h' k he λB=>B.is.elim (λh=>hn h.2) (λh=>absurd (show(1:Int)=2 from h.1) U);refine⟨ci,q (Nw.refl _) (j:=2) rfl,λc2=>⟨co,q (Nw.refl _) (j:=3) rfl,λc3=>⟨_,_,_,_,_,_,_,_,_,bN,at_,q (Nw.refl _) (j:=1) rfl,pH (Z.nw k12) λy h3 k3 hy=>⟨y,rfl,λhy1=>⟨w,q k3 (j:=4) rfl,hU ⟨_,rfl,λhw=>?_,λhw=>?_⟩⟩,λhy0=>no (k12.trans k3) U λhn=>?_⟩⟩,λc3=>no k12 U λh=>c3 h.2.2.2⟩,λc2=>no k12 U λh=>c2 h.2.2.1⟩
  .have:=hy.1 hy1;exact hK 0 h3 (k12.trans k3) ⟨λ_=>⟨hw,.inl ⟨rfl,this.1,this.2,c2,c3⟩⟩,λ_=>rfl⟩
  .exact bad 8 h3 (k12.trans k3) U λB=>by have hb:=B.w;simp only at hb;rw[hb]at hw;cases hw
  .rw[hy.2 ⟨hn.1,hn.2.1⟩]at hy0;cases hy0
 .subst c2;have no:∀{e:Int},e≠0->¬N.isTurn (2,at_,ci,co,w)->Q (ψ η e) h2:=fun {e} he hn=>bad e h2 k12 he λB=>B.is.elim (λh=>absurd (show(2:Int)=1 from h.1) U) (λh=>hn h.2);refine⟨at_,q (Nw.refl _) (j:=1) rfl,λhn=>no U λh=>by have:=h.1.1;simp only at this;omega,λa0=>⟨at_,q (Nw.refl _) (j:=1) rfl,_,_,_,t2,λhn=>no U λh=>by have:=h.1.2;simp only at this;omega,λa1=>?_⟩⟩;obtain⟨k,rfl⟩:=Int.eq_ofNat_of_zero_le (show 0<=at_ by omega);obtain⟨b,o,p',q',A',n',K',zs,hA,-,-,htt,f0,f1,f2,sz⟩:=(Z.nw k12).ts.tableZ (k:=k) U;have htb:N.tb k=(p',q',zs):=by unfold ab.tb;rw[htt];rfl
  have iT:N.isTurn (2,(k:Int),ci,co,w)↔(0<=ci/\ci<p')/\(0<=co/\co<q'):=by
   unfold ab.isTurn;simp only[Int.toNat_natCast,htb];constructor
   .rintro⟨-,h2,h3⟩;exact⟨h2,h3⟩
   .rintro⟨h2,h3⟩;exact⟨⟨U,U⟩,h2,h3⟩
  refine⟨ci,q (Nw.refl _) (j:=2) rfl,λhn=>no U λh=>by have:=(iT.1 h).1;omega,λi0=>⟨ci,q (Nw.refl _) (j:=2) rfl,_,_,_,t2,_,q (Nw.refl _) (j:=1) rfl,k,rfl,b,o,hA,U,_,f0,λhn=>no U λh=>by have:=(iT.1 h).1;omega,λi1=>⟨co,q (Nw.refl _) (j:=3) rfl,λhn=>no U λh=>by have:=(iT.1 h).2;omega,λo0=>⟨co,q (Nw.refl _) (j:=3) rfl,_,_,_,t2,_,q (Nw.refl _) (j:=1) rfl,k,rfl,b,o,hA,U,_,f1,λhn=>no U λh=>by have:=(iT.1 h).2;omega,λo1=>⟨w,q (Nw.refl _) (j:=4) rfl,hU ⟨_,rfl,λhw=>?_,λhw=>?_⟩⟩⟩⟩⟩⟩
  .exact hK 0 h2 k12 ⟨λ_=>⟨hw,.inr ⟨rfl,iT.2 ⟨⟨U,U⟩,U,U⟩⟩⟩,λ_=>rfl⟩
  .exact bad 8 h2 k12 U λB=>by have hb:=B.w;simp only at hb;rw[hb]at hw;cases hw
theorem Ct (Z0:cq h F Av nv Kv Aa na Ka At nt Kt N) (hs0:Sz dQ Fl h A n K xs) (hn:n<=1000) (hK:∀A' n' K' (e:Int) h',Nw h h'->(e=0↔bI N xs)->Q (.agg #[ω A' n' K',ψ η e]) h') :
  WC Tryz.prog 29 [.agg #[ω Av nv Kv,ω Aa na Ka,ω At nt Kt],ω A n K] h Q:=by
 have Z:=Z0.old;have hs:Sz dQ (λz=>z<h.next) h A n K xs:=hs0.mono λz _ hz=>hz;have hl:=hs.len;refine jQ λh1 e1 h2 e2=>?_;obtain⟨k1,g1,z1⟩:=aj e1;obtain⟨k2,g2,z2⟩:=aj e2;have k12:=k1.trans k2;have g12:=k2.bk U g1;have bN:∀{h'},Nw h2 h'->au h' h.next 0 3=ξ [ω Av nv Kv,ω Aa na Ka,ω At nt Kt]:=λa=>aK (aa (a.bk U g12) rfl) (aa (a.bk U g12) rfl) (aa (a.bk U g12) rfl);have fin:∀{h3}(A':Option Addr) (n' K':Nat) (e:Int),Nw h2 h3->(e=0↔bI N xs)->∃h4:AH,iE h3 h1.next 0 [ω A' n' K',ψ η e]=ξ h4/\∃A6 n6 K6 x2,au h4 h1.next 0 2=ξ [ω A6 n6 K6,ψ η x2]/\Q (.agg #[ω A6 n6 K6,ψ η x2]) h4:=fun {h3} A' n' K' e k3 he=>by
  obtain⟨h4,s4,b4,z4,o4⟩:=bL (vs:=[ω A' n' K',ψ η e]) (k3.bk U g2) rfl (by simp[flat]);have z3:=k3.next;exact⟨h4,s4,_,_,_,_,bX b4 (by simp),hK A' n' K' e h4 ⟨U,λz hz=>(o4 z U).trans ((k12.trans k3).get z hz)⟩ he⟩
 have err:∀{h3}{s:ByteArray}{x e:Int},Nw h2 h3->e≠0->¬bI N xs->WC Tryz.prog 74 [.string s,ψ η x,ψ η e] h3 (λv1 h3=>∃A5 n5 K5 x1,v1 = .agg #[ω A5 n5 K5,ψ η x1]/\∃h4:AH,iE h3 h1.next 0 [ω A5 n5 K5,ψ η x1]=ξ h4/\∃A6 n6 K6 x2,au h4 h1.next 0 2=ξ [ω A6 n6 K6,ψ η x2]/\Q (.agg #[ω A6 n6 K6,ψ η x2]) h4):=fun {h3 s x e} k3 he hB=>
  Hg λA' h4 _ k4=>⟨_,_,_,_,rfl,fin _ _ _ _ (k3.trans k4) ⟨λh=>absurd h he,λB=>absurd B hB⟩⟩
 refine⟨λhbig=>err (Nw.refl _) U λB=>by have:=B.len;omega,λhle=>?_⟩;refine⟨λm x h5=>∃i:Nat,x=i/\i<=n/\m=n - i/\Nw h2 h5/\(∀j x,j<i->xs[j]? = ξ x->el N x)/\(∀j i' x y,j<i'->i' < i->xs[j]? = ξ x->xs[i']? = ξ y->cU x≠cU y),n,⟨0,rfl,Nat.zero_le _,rfl,Nw.refl _,λj x hj=>absurd hj U,λj i' x y _ hj=>absurd hj U⟩,?_⟩;rintro m x h5 ⟨i,rfl,hi,rfl,k5,hok,hone⟩;refine⟨λhlt=>?_,λhge=>?_⟩
 .have hin:i<n:=U;obtain⟨b,o,hA,-,hb,hx0⟩:=hs.at_ U;have rd:∀{h'}(a:Nw h h'){k x},xs[k]? = ξ x->∀j u,(dR x)[j]? = ξ u->ldC h' b (o+k*5+j)=ξ u:=fun {h'} a {k x} hk j u hj=>by
   obtain⟨cs,hc,hr⟩:=hx0 k x hk;have hr':cs=dR x:=hr;subst hr';have:=hc j u hj;rw[a.ldC hb];simpa[Rc.chg,Nat.add_assoc]using this
  obtain⟨x,hx⟩:∃x,xs[i]? = ξ x:=⟨_,List.getElem?_eq_getElem U⟩;have k05:=k12.trans k5;have n5:au h5 b (o+i*5) 5=ξ (dR x):=jY rfl U λj u hj=>rd k05 hx j u hj;refine⟨_,_,_,_,_,_,_,_,_,bN k5,i,rfl,b,o,hA,hin,_,_,_,_,_,n5,FL (Z.nw k05) λe h6 k6 he=>⟨e,rfl,λe0=>?_,λen=>err (k5.trans k6) en λB=>en (he.2 (B.ok x (List.mem_of_getElem? hx)))⟩⟩;have okx:=he.1 e0;refine⟨λm x' h7=>∃k:Nat,x' = k/\k<=i/\m=i - k/\Nw h2 h7/\(∀j y,j<k->xs[j]? = ξ y->cU y≠cU x),i,⟨0,rfl,Nat.zero_le _,rfl,k5.trans k6,λj y hj=>absurd hj U⟩,?_⟩;rintro m x' h7 ⟨k,rfl,hk,rfl,k7,hno⟩;have k07:=k12.trans k7;refine⟨λhlt7=>?_,λhge7=>?_⟩
  .obtain⟨y,hy⟩:∃y,xs[k]? = ξ y:=⟨_,List.getElem?_eq_getElem U⟩;have ry:=λj u (hj:(dR y)[j]? = ξ u)=>rd k07 hy j u hj;have rx:=λj u (hj:(dR x)[j]? = ξ u)=>rd k07 hx j u hj;have nxt:cU y≠cU x->∃x21,IntKind.i64.wrap ((k:Int)+1)=x21/\∃m',m' < i - k/\∃k':Nat,x21=k'/\k'<=i/\m' = i - k'/\Nw h2 h7/\∀j y,j<k'->xs[j]? = ξ y->cU y≠cU x:=λhne=>⟨_,eD U,i - (k+1),U,k+1,rfl,U,rfl,k7,λj z hj hz=>by
    by_cases e:j=k
    .subst e;obtain rfl:=Option.some.inj (hy.symm.trans hz);exact hne
    .exact hno j z U hz⟩
   refine⟨k,rfl,U,_,ry 0 _ rfl,hin,_,rx 0 _ rfl,λq1=>⟨U,_,ry 1 _ rfl,hin,_,rx 1 _ rfl,λq2=>⟨U,_,ry 2 _ rfl,hin,_,rx 2 _ rfl,λq3=>⟨U,_,ry 3 _ rfl,hin,_,rx 3 _ rfl,λq4=>err k7 U λB=>?_,λq4=>nxt λe=>?_⟩,λq3=>nxt λe=>?_⟩,λq2=>nxt λe=>?_⟩,λq1=>nxt λe=>?_⟩
   .exact B.one k i y x U hy hx (by unfold cU;rw[q1,q2,q3,q4])
   all_goals
    unfold cU at e;simp only[Prod.mk.injEq]at e
   .exact q4 e.2.2.2.1
   .exact q3 e.2.2.1
   .exact q2 e.2.1
   .exact q1 e.1
  .obtain rfl:k=i:=U;refine⟨_,eD U,n - (k+1),U,k+1,rfl,U,rfl,k7,λj z hj hz=>?_,λj i' z y h1 h2 h3 h4=>?_⟩
   .by_cases e:j=k
    .subst e;obtain rfl:=Option.some.inj (hx.symm.trans hz);exact okx
    .exact hok j z U hz
   .by_cases e:i' = k
    .subst e;obtain rfl:=Option.some.inj (hx.symm.trans h4);exact hno j z h1 h3
    .exact hone j i' z y h1 U h3 h4
 .obtain rfl:i=n:=U;refine fin _ _ _ _ k5 ⟨λ_=>⟨U,λx hx=>?_,λj i' x y h1 h2 h3=>hone j i' x y h1 (by have:=(List.getElem?_eq_some_iff.1 h3).1;omega) h2 h3⟩,λ_=>rfl⟩;obtain⟨j,hj⟩:=List.getElem?_of_mem hx;exact hok j x (by have:=(List.getElem?_eq_some_iff.1 hj).1;omega) hj
end
end Eva
end
section
open Go Go.RowKit
namespace Eva
section
variable {h h':AH}{F Fl:Nat->Prop}{Q:Value->AH->Prop}{A Av Aa At Al:Option Addr}{n K nv Kv na Ka nt Kt nl Kl:Nat}{N:ab}{xs:List dV}{ls:List (List dV)}
theorem Cu (Z0:cq h F Av nv Kv Aa na Ka At nt Kt N) (hf:py N) (ok:N.Ok) (hs0:Sz dQ Fl h A n K xs) (B:bI N xs) (hK:∀A1 n1 K1 A2 n2 K2 A3 n3 K3 h',cq h' (λz=>h.next<=z) A1 n1 K1 A2 n2 K2 A3 n3 K3 (N.doL xs)->Nw h h'->Q (.agg #[ω A1 n1 K1,ω A2 n2 K2,ω A3 n3 K3]) h') :
  WC Tryz.prog 30 [.agg #[ω Av nv Kv,ω Aa na Ka,ω At nt Kt],ω A n K] h Q:=by
 have Z:=Z0.old;have hs:Sz dQ (λz=>z<h.next) h A n K xs:=hs0.mono λz _ hz=>hz;have hl:=hs.len;have hn:=B.len;refine qg λh1 e1 h2 e2=>?_;obtain⟨k1,g1,z1⟩:=aj e1;obtain⟨k2,g2,z2⟩:=aj e2;have k12:=k1.trans k2;have g12:=k2.bk U g1;refine⟨_,_,_,_,_,_,_,_,_,aK (aa g12 rfl) (aa g12 rfl) (aa g12 rfl),FJ (Z.nw k12) hf λA8 K8 A9 K9 A10 K10 h3 v3 a3 t3 lo8 lo9 k3=>⟨_,_,_,_,_,_,_,_,_,rfl,λh4 e4=>?_⟩⟩;obtain⟨h5,s5,k5,g5,z5⟩:=aC (vs:=[ω A8 nv K8,ω A9 na K9,ω A10 nt K10]) e4 rfl (by simp[flat]);have z3:=k3.next;have k35:=k3.trans k5;have l8:∀z,ah A8 z->z<h3.next:=λz hz=>v3.own hz;have l9:∀z,ah A9 z->z<h3.next:=λz hz=>a3.own hz;refine⟨h5,s5,λm x h6=>∃i:Nat,x=i/\i<=n/\m=n - i/\Bk h6 h3.next [ω A8 nv K8,ω A9 na K9,ω A10 nt K10] 26/\al aN h6 (ah A8) 130 A8 nv K8 N.vs/\al aN h6 (ah A9) 124 A9 na K9 (N.doL (xs.take i)).xa/\fe h6 (λz=>h2.next<=z/\¬ah A8 z/\¬ah A9 z/\z<h3.next) A10 nt K10 (N.doL (xs.take i)).ts/\Nw h2 h6/\h5.next<=h6.next,n,⟨0,rfl,Nat.zero_le _,rfl,g5,v3.nw k5,a3.nw k5,t3.nw k5,k35,Nat.le_refl _⟩,?_⟩;rintro m x h6 ⟨i,rfl,hi,rfl,g6,v6,a6,t6,k6,z6⟩;have k06:=k12.trans k6;refine⟨λhlt=>?_,λhge=>?_⟩
 .have hin:i<n:=U;obtain⟨b',o',x,hA',-,hlb,hx,hc,hn5⟩:=(hs.nw k06).chg (k:=i) hin;refine⟨i,rfl,b',o',hA',hin,_,_,_,_,_,hn5,λh7 e7=>?_⟩;obtain⟨h8,s8,k8,g8,z8⟩:=aC (vs:=dR x) e7 rfl (uX x);have S:=ab.doL_shp (xs.take i) (N:=N);have hxo:=(B.ok x (List.mem_of_getElem? hx)).shp S;have htk:xs.take (i+1)=xs.take i ++ [x]:=by rw[List.take_add_one,hx];rfl
  obtain⟨M,hM⟩:∃M,N.doL (xs.take i)=M:=⟨_,rfl⟩;rw[hM]at a6 t6 S hxo;have hd:N.doL (xs.take (i+1))=M.do1 x:=by rw[htk,ab.doL_snoc,hM]
  have g68:=k8.bk U g6;obtain⟨kd,at_,ci,co,w⟩:=x;refine⟨h8,s8,kd,aa g8 rfl,λc1=>?_,λc1=>?_⟩
  .subst c1;obtain⟨hw,⟨-,a1,a2,-,-⟩ | ⟨h1',-⟩⟩:=hxo
   .simp only at a1 a2;obtain⟨a,rfl⟩:=Int.eq_ofNat_of_zero_le a1;have han:a<M.na:=U;have a8:=a6.nw k8;have hal:M.xa.length=na:=a8.1;have hget:=ab.arc_get han;obtain⟨gA,hgA⟩:∃gA,A9=ξ ⟨gA,0,ν⟩:=by
     rcases a8.2 with⟨-,h0,-⟩ | ⟨gA,_,hgA,-⟩
     .unfold ab.na at han;omega
     .exact⟨gA,hgA⟩
    subst hgA;obtain⟨h9,s9,o9,z9,q9⟩:=al.setW a8 hget w;have m9:Mt (λz=>z=gA) h8 h9:=⟨U,λz _ hn=>q9 z hn⟩;have gA3:=l9 gA rfl;have gA2:=lo9 gA rfl;refine⟨_,_,_,aa g68 rfl,_,aa g8 rfl,_,aa g8 rfl,a,rfl,gA,0,rfl,by unfold ab.na at han;omega,h9,s9,_,eD U,n - (i+1),U,i+1,rfl,U,rfl,m9.bk U U g68,(v6.nw k8).off m9 λz hz _ e=>(lo8 z hz).2 e,?_,?_,m9.is_nw (k6.trans k8) λz hz=>U,U⟩
    .rw[hd];exact o9
    .rw[hd];exact(t6.nw k8).off m9 λz hz _ e=>hz.2.2.1 e
   .simp at h1'
  .obtain⟨hw,⟨h1',-⟩ | ⟨c2,⟨a1,a2⟩,⟨a3',a4⟩,a5,a6'⟩⟩:=hxo
   .exact absurd h1' c1
   .simp only at a1 a2 a3' a4 a5 a6' c2;subst c2;obtain⟨a,rfl⟩:=Int.eq_ofNat_of_zero_le a1;obtain⟨b,rfl⟩:=Int.eq_ofNat_of_zero_le a3';obtain⟨c,rfl⟩:=Int.eq_ofNat_of_zero_le a5;simp only[Int.toNat_natCast]at a4 a6';have hat:a<M.ts.length:=U;have htb:M.ts[a]? = ξ (M.tb a):=by simp[ab.tb,List.getElem?_eq_getElem hat]
    have okM:M.Ok:=by rw[<-hM];exact ab.doL_ok ok _ λy hy=>B.ok y (List.mem_of_mem_take hy)
    have htk2:=ab.tb_ok okM hat;obtain⟨⟨i0,i1⟩,⟨q0,q1⟩,tl,-⟩:=id htk2;obtain⟨O,hO⟩:=Int.eq_ofNat_of_zero_le q0;obtain⟨I,hI⟩:=Int.eq_ofNat_of_zero_le i0;have hmul:(b+1)*O<=I*O:=Nat.mul_le_mul_right _ U;rw[Nat.succ_mul]at hmul;have hIO:I*O<=16*16:=Nat.mul_le_mul U U;have hlen:(M.tb a).2.2.length=I*O:=by rw[hI,hO,<-Int.natCast_mul]at tl;omega
    have tln:=t6.len;obtain⟨g,K1,gr,hg,hld,hWr,hgl,hst⟩:=(t6.nw k8).st htb (i:=b*O+c) U w;obtain⟨h11,s11,k11,g11,z11⟩:=aC (h:=h8) (z:=[ψ η 0,ψ η 0,ω ν 0 0]) (t:=128) (vs:=[ψ η (M.tb a).1,ψ η (M.tb a).2.1,ω (ξ ⟨gr,0,ν⟩) (M.tb a).2.2.length K1]) rfl rfl (by simp[flat]);obtain⟨h12,s12,t12,z12,q12⟩:=hst h11 k11;have g811:=k11.bk U g8;have m12:Mt (λz=>z=gr) h11 h12:=⟨U,λz _ hn=>q12 z hn⟩;have w1:IntKind.i64.wrap ((b:Int)*(M.tb a).2.1)=((b*O:Nat):Int):=by rw[hO,<-Int.natCast_mul];exact af U U
    have w2:IntKind.i64.wrap (((b*O:Nat):Int)+(c:Int))=((b*O+c:Nat):Int):=by rw[Int.natCast_add];exact af U U
    have z8':=k8.next;refine⟨_,_,_,aa g68 rfl,_,aa g8 rfl,a,rfl,g,0,hg,U,_,_,_,_,_,hld,λh10 e10=>?_⟩;subst e10;refine⟨h11,s11,_,_,_,aa g11 rfl,_,aa g811 rfl,_,aa g11 rfl,_,w1,_,aa g811 rfl,_,w2,_,aa g811 rfl,b*O+c,rfl,gr,0,rfl,U,h12,s12,_,eD U,n - (i+1),U,i+1,rfl,U,rfl,m12.bk U U (k11.bk U g68),((v6.nw k8).nw k11).off m12 λz hz _ e=>hWr.2.1 (e ▸ hz),?_,?_,m12.is_nw ((k6.trans k8).trans k11) λz hz=>U,U⟩
    .rw[hd];exact((a6.nw k8).nw k11).off m12 λz hz _ e=>hWr.2.2.1 (e ▸ hz)
    .have e:(M.do1 (2,(a:Int),(b:Int),(c:Int),w)).ts=M.ts.set a ((M.tb a).1,(M.tb a).2.1,(M.tb a).2.2.set (b*O+c) w):=by
      unfold ab.do1 ab.bend wz;simp[hO]
     rw[hd,e];exact t12
 .obtain rfl:i=n:=U;have e:xs.take i=xs:=List.take_of_length_le U;rw[e]at a6 t6;have e2:(N.doL xs).vs=N.vs:=(ab.doL_shp xs (N:=N)).vs;obtain⟨h13,s13,b13,z13,q13⟩:=bL (vs:=[ω A8 nv K8,ω A9 na K9,ω A10 nt K10]) (k6.bk U g2) rfl (by simp[flat]);have m13:Mt (λz=>z=h1.next) h6 h13:=⟨U,λz _ hn=>q13 z hn⟩;refine⟨_,_,_,_,_,_,_,_,_,aK (aa g6 rfl) (aa g6 rfl) (aa g6 rfl),h13,s13,_,_,_,_,_,_,_,_,_,aK (aa b13 rfl) (aa b13 rfl) (aa b13 rfl),hK _ _ _ _ _ _ _ _ _ h13 ⟨?_,?_,?_⟩ (m13.is_nw k06 λz hz=>U)⟩
  .rw[e2];exact((v6.off m13 λz hz _ e=>by have:=(lo8 z hz).1;omega).sa.mono λz hz _=>by have:=(lo8 z hz).1;omega).z
  .exact((a6.off m13 λz hz _ e=>by have:=lo9 z hz;omega).sa.mono λz hz _=>by have:=lo9 z hz;omega).z
  .exact(t6.off m13 λz hz _ e=>by have:=hz.1;omega).sz.mono λz hz _=>by have:=hz.1;omega
theorem GV (hl0:Sz (Rc.sliceZ dQ) Fl h Al nl Kl ls) (hmx:nl<=9223372036854775807) (hK:∀b:Bool,(b=true->nl<=6/\∀l∈ls,l.length<=300)->Q (.bool b) h):WC Tryz.prog 6 [ω Al nl Kl] h Q:=by
 have hll:=hl0.len;refine y6 ⟨λm x h1=>h1=h/\∃i:Nat,x=i/\i<=nl/\m=nl - i/\∀l∈ls.take i,l.length<=300,nl,⟨rfl,0,rfl,Nat.zero_le _,rfl,by simp⟩,?_⟩;rintro m x h1 ⟨rfl,i,rfl,hi,rfl,hq⟩;refine⟨λhlt=>?_,λhge=>⟨λh6=>hK true λ_=>⟨U,?_⟩,λh6=>hK false λh=>Bool.noConfusion h⟩⟩
 .obtain⟨b,o,A2,n2,K2,l,hA,-,-,hx,e0,sl⟩:=hl0.rowZ (k:=i) U;have hn2:=sl.len;refine⟨i,rfl,b,o,hA,U,_,_,_,e0,λhbig=>hK false λh=>Bool.noConfusion h,λhle=>⟨_,?_,nl - (i+1),U,rfl,i+1,rfl,U,rfl,λy hy=>?_⟩⟩
  .rw[Int.natCast_succ];exact af U U
  .rw[List.take_add_one,hx]at hy;rcases List.mem_append.1 hy with hy | hy
   .exact hq y hy
   .have:y=l:=by simpa using hy
    rw[this];omega
 .rw[List.take_of_length_le U]at hq;exact hq
theorem D0 (Z0:cq h F Av nv Kv Aa na Ka At nt Kt N) (hf:py N) (ok:N.Ok) (hl0:Sz (Rc.sliceZ dQ) Fl h Al nl Kl ls) (hl6:nl<=1000) (hl3:∀l∈ls,l.length<=300)
  (hK:∀A1 n1 K1 A2 n2 K2 A3 n3 K3 h',cq h' (λz=>z<h'.next) A1 n1 K1 A2 n2 K2 A3 n3 K3 (N.behind ls)->Nw h h'->Q (.agg #[ω A1 n1 K1,ω A2 n2 K2,ω A3 n3 K3]) h') :
  WC Tryz.prog 8 [.agg #[ω Av nv Kv,ω Aa na Ka,ω At nt Kt],ω Al nl Kl] h Q:=by
 have Z:=Z0.old;have hl:Sz (Rc.sliceZ dQ) (λz=>z<h.next) h Al nl Kl ls:=hl0.mono λz _ hz=>hz;have hll:=hl.len;refine sG λh1 e1 h2 e2=>?_;obtain⟨k1,g1,z1⟩:=aj e1;obtain⟨k2,g2,z2⟩:=aj e2;have k12:=k1.trans k2;have g12:=k2.bk U g1;refine⟨λm x h3=>∃(i:Nat) (A1 A2 A3:Option Addr) (n1 K1 n2 K2 n3 K3:Nat),x=i/\i<=nl/\m=nl - i/\Bk h3 h.next [ω A1 n1 K1,ω A2 n2 K2,ω A3 n3 K3] 26/\cq h3 (λz=>z≠h.next/\z≠h1.next) A1 n1 K1 A2 n2 K2 A3 n3 K3 (N.behind (ls.take i))/\Mt (λz=>z=h.next) h2 h3,nl,⟨0,_,_,_,_,_,_,_,_,_,rfl,Nat.zero_le _,rfl,g12,?_,Mt.refl _ _⟩,?_⟩
 .have Z2:=Z.nw k12;exact⟨Z2.vs.mono λz hz _=>⟨U,U⟩,Z2.xa.mono λz hz _=>⟨U,U⟩,Z2.ts.mono λz hz _=>⟨U,U⟩⟩
 rintro m x h3 ⟨i,A1,A2,A3,n1,K1,n2,K2,n3,K3,rfl,hi,rfl,g3,Z3,m3⟩;have z3:=m3.next;have k03:Nw h h3:=m3.is_nw k12 λz hz=>U;have S:=ab.behind_shp (ls.take i) N;have okM:=ab.behind_ok (ls.take i) ok;refine⟨λhlt=>?_,λhge=>?_⟩
 .have hin:i<nl:=U;obtain⟨b,o,A8,n8,K8,l,hA,-,hlb,hx,e0,sl⟩:=(hl.nw k03).rowZ (k:=i) hin;have hn8:=sl.len;have hl300:=hl3 l (List.mem_of_getElem? hx);have hst:N.behind (ls.take (i+1))=(N.behind (ls.take i)).step l:=by rw[List.take_add_one,hx];exact ab.behind_snoc N _ l
  refine⟨_,_,_,_,_,_,_,_,_,aK (aa g3 rfl) (aa g3 rfl) (aa g3 rfl),i,rfl,b,o,hA,hin,_,_,_,e0,Ct Z3 sl U λA9 n9 K9 e h4 k4 he=>⟨_,_,_,e,rfl,λe0'=>?_,λen=>?_⟩⟩
  .have B:=he.1 e0';have z4:=k4.next;have g4:=k4.bk U g3;have hFM:py (N.behind (ls.take i)):=by
    obtain⟨f1,f2,f3,f4⟩:=hf;refine⟨by rw[S.vs];exact f1,by have:=S.na;unfold ab.na at this;omega,by rw[S.nt];exact f3,λt ht=>?_⟩;obtain⟨j,hj⟩:=List.getElem?_of_mem ht;have hT:=okM.types_ t ht;obtain⟨i0,i1⟩:=hT.ins_;obtain⟨q0,q1⟩:=hT.outs_;obtain⟨I,hI⟩:=Int.eq_ofNat_of_zero_le i0;obtain⟨O,hO⟩:=Int.eq_ofNat_of_zero_le q0;have hIO:I*O<=16*16:=Nat.mul_le_mul U U;have tl:=hT.len;rw[hI,hO,<-Int.natCast_mul]at tl;omega
   refine⟨_,_,_,_,_,_,_,_,_,aK (aa g4 rfl) (aa g4 rfl) (aa g4 rfl),hin,_,_,_,(k4.ldC hlb _).trans e0,Cu (Z3.nw k4) hFM okM (sl.nw k4) B λA14 n14 K14 A15 n15 K15 A16 n16 K16 h5 Z5 k5=>⟨_,_,_,_,_,_,_,_,_,rfl,?_⟩⟩;have z5:=k5.next;obtain⟨h6,s6,b6,z6,q6⟩:=bL (vs:=[ω A14 n14 K14,ω A15 n15 K15,ω A16 n16 K16]) (k5.bk U g4) rfl (by simp[flat]);have m6:Mt (λz=>z=h.next) h5 h6:=⟨U,λz _ hn=>q6 z hn⟩;have Z6:=Z5.off m6 λz hz e=>U;refine⟨h6,s6,_,eD U,nl - (i+1),U,i+1,_,_,_,_,_,_,_,_,_,rfl,U,rfl,b6,?_,(m3.nw (k4.trans k5)).then m6⟩;have e:N.behind (ls.take (i+1))=(N.behind (ls.take i)).doL l:=by rw[hst];unfold ab.step;rw[if_pos B]
   rw[e];exact⟨Z6.vs.mono λz hz _=>⟨U,U⟩,Z6.xa.mono λz hz _=>⟨U,U⟩,Z6.ts.mono λz hz _=>⟨U,U⟩⟩
  .have z4:=k4.next;refine⟨_,eD U,nl - (i+1),U,i+1,_,_,_,_,_,_,_,_,_,rfl,U,rfl,k4.bk U g3,?_,m3.nw k4⟩;have e:N.behind (ls.take (i+1))=N.behind (ls.take i):=by rw[hst];unfold ab.step;rw[if_neg (λB=>en (he.2 B))]
   rw[e];exact Z3.nw k4
 .obtain rfl:i=nl:=U;have e:ls.take i=ls:=List.take_of_length_le U;rw[e]at Z3;have g23:=m3.bk U U g2;obtain⟨h7,s7,b7,z7,q7⟩:=bL (vs:=[ω A1 n1 K1,ω A2 n2 K2,ω A3 n3 K3]) g23 rfl (by simp[flat]);have m7:Mt (λz=>z=h1.next) h3 h7:=⟨U,λz _ hn=>q7 z hn⟩;exact⟨_,_,_,_,_,_,_,_,_,aK (aa g3 rfl) (aa g3 rfl) (aa g3 rfl),h7,s7,_,_,_,_,_,_,_,_,_,aK (aa b7 rfl) (aa b7 rfl) (aa b7 rfl),hK _ _ _ _ _ _ _ _ _ h7 (Z3.off m7 λz hz e=>hz.2 e).old (m7.is_nw k03 λz hz=>U)⟩
end
end Eva
end
section
open Go Go.RowKit
theorem Cv {l l':List Nat}(h:ints l=ints l'):l=l':=by
 unfold ints at h;exact(List.map_inj_right λx y e=>Int.ofNat.inj e).1 h
namespace Eva
section
variable {h h':AH}{F G H:Nat->Prop}{Q:Value->AH->Prop}{A Av Aa At Ac Ar:Option Addr}{nv Kv na Ka nt Kt nc Kc nr Kr k:Nat}{M:ab}{p:List (List Int)}{rs row:List Int}
theorem Cw (Z0:cq h F Av nv Kv Aa na Ka At nt Kt M) (ok:M.Ok) (hna:M.na<=1000) (hp:aB M.nv p) (hk1:1<=k) (hkl:k<=p.length) (hrow:p[k - 1]? = ξ row) (hc0:Sz cI G h Ac nc Kc row) (hr0:Sz cI H h Ar nr Kr rs) (hnr:nr<=8000000000000)
  (hK0:∀h',Nw h h'->(∀s t l,pj M p k rs s t l->xT M (kU M p k s) s l 0=ν)->Q (.tuple #[ψ η 0,.bool false]) h')
  (hK1:∀s t l x h',Nw h h'->pj M p k rs s t l->xT M (kU M p k s) s l 0=ξ x->Q (.tuple #[ψ η x,.bool true]) h') :
  WC Tryz.prog 11 [.agg #[ω Av nv Kv,ω Aa na Ka,ω At nt Kt],ω Ac nc Kc,ω Ar nr Kr] h Q:=by
 have Z:=Z0.old;have hc:Sz cI (λz=>z<h.next) h Ac nc Kc row:=hc0.mono λz _ hz=>hz;have hr:Sz cI (λz=>z<h.next) h Ar nr Kr rs:=hr0.mono λz _ hz=>hz;have la:M.na=na:=Z.xa.len;have lr:=hr.len;obtain⟨hrl,hrx⟩:=cF hp hrow;have lc:M.nv=nc:=by rw[<-hc.len];exact hrl.symm
 refine qf λh1 e1=>?_;obtain⟨k1,g1,z1⟩:=aj e1;have c0:∀{h'},Nw h1 h'->ldC h' h.next 0=ξ (ω Av nv Kv):=λa=>aa (a.bk U g1) rfl;have c1:∀{h'},Nw h1 h'->ldC h' h.next 1=ξ (ω Aa na Ka):=λa=>aa (a.bk U g1) rfl;have c2:∀{h'},Nw h1 h'->ldC h' h.next 2=ξ (ω At nt Kt):=λa=>aa (a.bk U g1) rfl;have bN:∀{h'},Nw h1 h'->au h' h.next 0 3=ξ [ω Av nv Kv,ω Aa na Ka,ω At nt Kt]:=λa=>aK (c0 a) (c1 a) (c2 a);refine⟨λhlt=>hK0 _ k1 λs t l T=>?_,λhge=>?_⟩
 .obtain⟨l',hl'⟩:=T.last;have h1:=congrArg List.length T.eq;rw[hl',lr]at h1;simp[ints]at h1;omega
 obtain⟨b2,o2,hAr,-,hb2,hx2⟩:=hr.at_ U;have rdR:∀{h'}(a:Nw h h'){j:Nat}{x:Int},rs[j]? = ξ x->ldC h' b2 (o2+j)=ξ (ψ η x):=fun {h'} a {j x} hj=>by
  obtain⟨cs,q1,q2⟩:=hx2 j x hj;have q2':cs = [ψ η x]:=q2;have:=q1 0 (ψ η x) (by rw[q2'];rfl);rw[a.ldC hb2];simpa[Rc.int]using this
 refine⟨λm x h2=>∃i:Nat,x=i/\i<=nr/\m=nr - i/\Nw h1 h2/\∀j r,j<i->rs[j]? = ξ r->0<=r/\r<M.na,nr,⟨0,rfl,Nat.zero_le _,rfl,Nw.refl _,λj r hj=>absurd hj U⟩,?_⟩;rintro m x h2 ⟨i,rfl,hi,rfl,k2,hall⟩;have k02:=k1.trans k2;refine⟨λhlt=>?_,λhge2=>?_⟩
 .obtain⟨r,hr_⟩:∃r,rs[i]? = ξ r:=⟨_,List.getElem?_eq_getElem U⟩;refine⟨_,_,_,_,_,_,_,_,_,bN k2,i,rfl,b2,o2,hAr,U,_,rdR k02 hr_,pH (Z.nw k02) λy h3 k3 hy=>⟨y,rfl,λhy1=>⟨((i+1:Nat):Int),by rw[Int.natCast_succ];exact af U U,nr - (i+1),U,i+1,rfl,U,rfl,k2.trans k3,λj r' hj hr'=>?_⟩,λhy0=>hK0 h3 (k02.trans k3) λs t l T=>?_⟩⟩
  .by_cases e:j=i
   .subst e;obtain rfl:=Option.some.inj (hr_.symm.trans hr');exact hy.1 hy1
   .exact hall j r' U hr'
  .exfalso;have he:=T.eq;rw[he]at hr_;unfold ints at hr_;rw[List.getElem?_map]at hr_;cases hb:(s :: l)[i]? with
   | none=>rw[hb]at hr_;cases hr_
   | some b=>
    rw[hb]at hr_;have hbr:(b:Int)=r:=Option.some.inj hr_;have hbn:=T.lt b (List.mem_of_getElem? hb);rw[hy.2 ⟨U,U⟩]at hy0;cases hy0
 obtain rfl:i=nr:=U;obtain⟨ns,hns,hnlt⟩:∃ns:List Nat,rs=ints ns/\∀b∈ns,b<M.na:=by
  refine⟨rs.map Int.toNat,?_,λb hb=>?_⟩
  .unfold ints;rw[List.map_map];apply List.ext_getElem?;intro j;rw[List.getElem?_map];cases hj:rs[j]? with
   | none=>rfl
   | some r=>
    have:=hall j r (by have:=(List.getElem?_eq_some_iff.1 hj).1;omega) hj;simp;omega
  .obtain⟨r,hr_,rfl⟩:=List.mem_map.1 hb;obtain⟨j,hj⟩:=List.getElem?_of_mem hr_;have:=hall j r (by have:=(List.getElem?_eq_some_iff.1 hj).1;omega) hj;omega
 have lns:ns.length=i:=by rw[<-lr,hns];simp[ints]
 have rdN:∀{h'}(a:Nw h h'){j:Nat}{b:Nat},ns[j]? = ξ b->ldC h' b2 (o2+j)=ξ (ψ η (b:Int)):=fun {h'} a {j b} hj=>rdR a (by rw[hns];simp[ints,hj]);obtain⟨s,l,hsl⟩:∃s l,ns=s :: l:=by
  cases ns with
  | nil=>simp at lns;omega
  | cons s l=>exact⟨s,l,rfl⟩
 have hl0:l≠[]:=λe=>by rw[hsl,e]at lns;simp at lns;omega
 obtain⟨l',t,hlt⟩:∃l' t,l=l' ++ [t]:=⟨l.dropLast,l.getLast hl0,(List.dropLast_concat_getLast hl0).symm⟩;have hsn:s<M.na:=hnlt s (by rw[hsl];simp);have htn:t<M.na:=hnlt t (by rw[hsl,hlt];simp);have h0s:ns[0]? = ξ s:=by rw[hsl];rfl
 have hlast:ns[i - 1]? = ξ t:=by
  have e:i - 1=(s :: l').length:=by rw[hsl,hlt]at lns;simp at lns;simp;omega
  rw[hsl,hlt,e,<-List.cons_append,List.getElem?_append_right (Nat.le_refl _),Nat.sub_self];rfl
 have uniq:∀{s' t' l2},pj M p k rs s' t' l2->s' = s/\l2=l/\t' = t:=fun {s' t' l2} T=>by
  have h1:=T.eq;rw[hns,hsl]at h1;have h2:=Cv h1;injection h2 with h3 h4;obtain⟨l3,h5⟩:=T.last;refine⟨h3.symm,h4.symm,?_⟩;rw[<-h4,hlt]at h5;have:=congrArg List.getLast? h5;simpa using this.symm
 obtain⟨ba,oa,hAa,-,hba,hxa⟩:=Z.xa.at_ U;have rdA:∀{h'}(a:Nw h h'){j:Nat},j<M.na->au h' ba (oa+j*3) 3=ξ [ψ η (M.fr j:Int),ψ η (M.to j:Int),ψ η (M.w j)]:=fun {h'} a {j} hj=>by
  obtain⟨cs,q1,q2⟩:=hxa j _ (ab.arc_get hj);have q2':cs = [ψ η (M.arc j).1,ψ η (M.arc j).2.1,ψ η (M.arc j).2.2]:=q2;have ef:=(ab.fr_lt ok hj).2;have et:=(ab.to_lt ok hj).2;have ew:M.w j=(M.arc j).2.2:=by unfold ab.w;rw[if_pos hj]
  rw[ef,et,<-ew]at q2';have d:∀j' u,cs[j']? = ξ u->ldC h' ba (oa+j*3+j')=ξ u:=λj' u hu=>by
   have:=q1 j' u hu;rw[a.ldC hba];simpa[Rc.tri,Nat.add_assoc]using this
  exact aK (d 0 _ (by rw[q2'];rfl)) (d 1 _ (by rw[q2'];rfl)) (d 2 _ (by rw[q2'];rfl))
 have hnv:=hp.nv_;obtain⟨bc,oc,hAc,-,hbc,hxc⟩:=hc.at_ (by have:=(ab.to_lt ok hsn).1;omega);have rdC:∀{h'}(a:Nw h h'){v:Nat},v<M.nv->ldC h' bc (oc+v)=ξ (ψ η (ap p k v:Int)):=fun {h'} a {v} hv=>by
  obtain⟨x,hx,x0,-⟩:=hrx v hv;obtain⟨cs,q1,q2⟩:=hxc v x hx;have q2':cs = [ψ η x]:=q2;have:=q1 0 (ψ η x) (by rw[q2'];rfl);have ec:=bS hrow hx;have ex:x=(ap p k v:Int):=U;rw[a.ldC hbc,<-ex];simpa[Rc.int]using this
 have fs:=(ab.fr_lt ok hsn).1;have ts:=(ab.to_lt ok hsn).1;have ft:=(ab.fr_lt ok htn).1;have tt:=(ab.to_lt ok htn).1;subst hAa hAc;have w1:IntKind.i64.wrap ((i:Int) - 1)=((i - 1:Nat):Int):=by rw[Int.natCast_sub U];exact af U U
 refine⟨_,_,_,c1 k2,b2,o2,hAr,U,_,rdN k02 h0s,s,rfl,ba,oa,rfl,U,_,_,_,rdA k02 hsn,_,_,_,c1 k2,_,w1,i - 1,rfl,U,_,rdN k02 hlast,t,rfl,ba,oa,rfl,U,_,_,_,rdA k02 htn,λh4 e4 h5 e5=>?_⟩;obtain⟨k4,g4,z4⟩:=aj e4;obtain⟨k5,g5,z5⟩:=aj e5;have k25:=k4.trans k5;have z2:=k02.next;obtain⟨h6,s6,g6,z6,q6⟩:=bL (vs:=[ψ η (M.fr s:Int),ψ η (M.to s:Int),ψ η (M.w s)]) (k5.bk U g4) rfl (by simp[flat]);have k26:Nw h2 h6:=⟨U,λz hz=>(q6 z U).trans (k25.get z hz)⟩;have k06:=k02.trans k26;have E3:∀a b c:Int,aS (.agg #[ψ η a,ψ η b,ψ η c]):=λa b c=>yi trivial trivial trivial;obtain⟨h7,s7,g7,z7,q7⟩:=bL (vs:=[ψ η (M.fr t:Int),ψ η (M.to t:Int),ψ η (M.w t)]) ((q6 _ U).trans g5) rfl (by simp[flat]);have k27:Nw h2 h7:=⟨U,λz hz=>(q7 z U).trans (k26.get z hz)⟩;have k07:=k02.trans k27;have g67:=(q7 h2.next U).trans g6;have no:∀{h'},Nw h h'->¬(M.inA p k (ap p k (M.to s)) s/\M.outA p k (ap p k (M.to s)) t)->Q (.tuple #[ψ η 0,.bool false]) h':=λa hn=>hK0 _ a λs' t' l2 T=>by
  obtain⟨rfl,rfl,rfl⟩:=uniq T;exact absurd ⟨T.in_,T.out⟩ hn
 refine⟨h6,s6,rdA k06 htn,E3 _ _ _,rdN k06 hlast,c1 (k2.trans k26),h7,s7,_,aa g67 rfl,M.to s,rfl,bc,oc,rfl,U,_,rdC k07 ts,_,aa g67 rfl,M.fr s,rfl,U,_,rdC k07 fs,λhe=>no k07 λhh=>hh.1.2 U,λhne=>⟨_,aa g7 rfl,M.fr t,rfl,U,_,rdC k07 ft,λhe2=>⟨_,aa g7 rfl,M.to t,rfl,U,_,rdC k07 tt,λhe3=>no k07 λhh=>hh.2.2 U,λhne3=>?_⟩,λhne2=>no k07 λhh=>hne2 (by rw[hh.2.1])⟩⟩;have T:pj M p k rs s t l:=⟨by rw[hns,hsl],λb hb=>hnlt b (by rw[hsl];exact hb),⟨l',hlt⟩,⟨rfl,λe=>hne (by rw[e])⟩,⟨U,λe=>hne3 (by rw[e])⟩⟩;have bad:∀{h'},Nw h h'->xT M (kU M p k s) s l 0=ν->Q (.tuple #[ψ η 0,.bool false]) h':=λa hn=>hK0 _ a λs' t' l2 T'=>by
  obtain⟨rfl,rfl,rfl⟩:=uniq T';exact hn
 have hd1:ns.drop 1=l:=by rw[hsl];rfl
 refine⟨λm x y h8=>∃j:Nat,y=j/\1<=j/\j<=i/\m=i - j/\Nw h1 h8/\∀a,ns[j - 1]? = ξ a->xT M (kU M p k s) a (ns.drop j) x=xT M (kU M p k s) s l 0,i - 1,⟨1,rfl,Nat.le_refl _,U,rfl,k2.trans k27,λa ha=>?_⟩,?_⟩
 .obtain rfl:=Option.some.inj (h0s.symm.trans ha);rw[hd1]
 rintro m x y h8 ⟨j,rfl,hj1,hji,rfl,k8,hg⟩;have k08:=k1.trans k8;obtain⟨a,ha⟩:∃a,ns[j - 1]? = ξ a:=⟨_,List.getElem?_eq_getElem U⟩;have hga:=hg a ha;have han:=hnlt a (List.mem_of_getElem? ha);refine⟨λhlt8=>?_,λhge8=>?_⟩
 .obtain⟨b,hb⟩:∃b,ns[j]? = ξ b:=⟨_,List.getElem?_eq_getElem U⟩;have hbn:=hnlt b (List.mem_of_getElem? hb);have fb:=(ab.fr_lt ok hbn).1;have tb:=(ab.to_lt ok hbn).1;have hd:ns.drop j=b :: ns.drop (j+1):=by
   rw[List.drop_eq_getElem_cons U];congr 1;exact(List.getElem?_eq_some_iff.1 hb).2
  rw[hd]at hga;have wj:IntKind.i64.wrap ((j:Int) - 1)=((j - 1:Nat):Int):=by rw[Int.natCast_sub hj1];exact af U U
  refine⟨_,_,_,_,_,_,_,_,_,bN k8,_,wj,j - 1,rfl,U,_,rdN k08 ha,j,rfl,U,_,rdN k08 hb,wR (Z.nw k08) ok hna han hbn λh9 k9=>⟨_,rfl,?_⟩⟩;have k09:=k08.trans k9;have z9:=k09.next;refine⟨_,_,_,c1 (k8.trans k9),U,_,rdN k09 hb,b,rfl,ba,oa,rfl,U,_,_,_,rdA k09 hbn,λh10 e10=>?_⟩;obtain⟨h11,s11,k11,g11,z11⟩:=aC (vs:=[ψ η (M.fr b:Int),ψ η (M.to b:Int),ψ η (M.w b)]) e10 rfl (by simp[flat]);have k011:=k09.trans k11;have k111:=(k8.trans k9).trans k11;have wj1:IntKind.i64.wrap ((j:Int)+1)=((j+1:Nat):Int):=by rw[Int.natCast_succ];exact af U U
  have ns1:∀a',ns[j+1 - 1]? = ξ a'->a' = b:=λa' h=>by rw[Nat.add_sub_cancel]at h;exact Option.some.inj (h.symm.trans hb)
  refine⟨h11,s11,λhti=>bad k011 ?_,λhti=>⟨_,w1,λhlt2=>?_,λhge2=>?_⟩⟩
  .rw[<-hga];by_cases hr0:ns.drop (j+1) = []
   .rw[hr0,kT,if_pos hti]
   .rw[sR hr0,if_pos (.inl hti)]
  .have hr0:ns.drop (j+1)≠[]:=λe=>by have:=congrArg List.length e;rw[List.length_drop]at this;simp at this;omega
   rw[sR hr0]at hga;have hP:kU M p k s b=true↔ap p k (M.fr b)=ap p k (M.to s)/\ap p k (M.to b)=ap p k (M.to s):=pk;have out:¬(ap p k (M.fr b)=ap p k (M.to s)/\ap p k (M.to b)=ap p k (M.to s))->xT M (kU M p k s) s l 0=none:=λhn=>by
    have hwf:kU M p k s b=false:=by
     cases hw:kU M p k s b with
     | false=>rfl
     | true=>exact absurd (hP.1 hw) hn
    rw[<-hga,if_pos (.inr (.inl hwf))]
   refine⟨_,aa g11 rfl,M.fr b,rfl,U,_,rdC k011 fb,λq1=>⟨_,aa g11 rfl,M.to b,rfl,U,_,rdC k011 tb,λq2=>⟨_,aa g11 rfl,λq3=>bad k011 (by rw[<-hga,if_pos (.inr (.inr q3))]),λq3=>?_⟩,λq2=>bad k011 (out λhh=>q2 (by rw[hh.2]))⟩,λq1=>bad k011 (out λhh=>q1 (by rw[hh.1]))⟩;refine uZ _ _ ⟨_,rfl,_,w1,λ_=>⟨_,aa g11 rfl,uZ _ _ ⟨_,rfl,_,wj1,i - (j+1),U,j+1,rfl,U,U,rfl,k111,λa' ha'=>?_⟩⟩,λhn=>absurd hlt2 hn⟩;obtain rfl:=ns1 a' ha';rw[<-hga,if_neg];rintro(h | h | h)
   .exact hti h
   .rw[hP.2 ⟨U,U⟩]at h;cases h
   .exact q3 h
  .have hji':j+1=i:=U;have hr0:ns.drop (j+1) = []:=List.drop_of_length_le U;rw[hr0,kT,if_neg hti]at hga;refine uZ _ _ ⟨_,rfl,_,w1,λhh=>absurd hh hge2,λ_=>⟨_,wj1,i - (j+1),U,j+1,rfl,U,U,rfl,k111,λa' ha'=>?_⟩⟩;obtain rfl:=ns1 a' ha';rw[hr0,<-hga];rfl
 .obtain rfl:j=i:=U;rw[List.drop_of_length_le U]at hga;exact hK1 s t l x h8 k08 T hga.symm
end
end Eva
end
section
open Go Go.RowKit
inductive cY (e:Nat->Nat->Option Nat) (lev:Nat->Nat) (s:Nat):Nat->Nat->List bw->Prop
 | nil:cY e lev s s 0 []
 | snoc {a b c x:Nat}{hs:List bw}:cY e lev s a c hs->e a b=ξ x->cY e lev s b (c+x) (hs ++ [((lev a:Int),(a:Int),(b:Int))])
def gC (s:bw):List Value:=[ψ η s.1,ψ η s.2.1,ψ η s.2.2]
def bO (hs:List bw):List Value:=hs.flatMap gC
theorem md:∀hs:List bw,(bO hs).length=hs.length*3
 | []=>rfl
 | s :: hs=>by
  show(gC s ++ bO hs).length=_;rw[List.length_append,md hs,List.length_cons,Nat.succ_mul,Nat.add_comm];rfl
theorem va:∀{hs:List bw}{cells:List Value},cells.length=hs.length*3->(∀k s,hs[k]? = ξ s->(cells.drop (k*3)).take 3=gC s)->cells=bO hs
 | [],cells,hl,_=>List.eq_nil_of_length_eq_zero (by simpa using hl)
 | s :: hs,cells,hl,hx=>by
  have h0:=hx 0 s rfl;rw[Nat.zero_mul,List.drop_zero]at h0;have h1:cells.drop 3=bO hs:=va (by rw[List.length_drop,hl,List.length_cons];omega) λk u hk=>by
   rw[List.drop_drop];have:=hx (k+1) u hk
   rwa [show(k+1)*3=3+k*3 by omega]at this
  show cells=gC s ++ bO hs;rw[<-h0,<-h1,List.take_append_drop]
theorem rt:∀{hs:List bw}{k:Nat}{s:bw},k<hs.length->(bO hs).take (k*3) ++ gC s ++ (bO hs).drop (k*3+3)=bO (hs.set k s)
 | [],k,s,h=>by simp at h
 | u :: hs,0,s,h=>by
  show(gC u ++ bO hs).take (0*3) ++ gC s ++ (gC u ++ bO hs).drop 3=gC s ++ bO hs;rfl
 | u :: hs,k+1,s,h=>by
  have ih:=rt (hs:=hs) (k:=k) (s:=s) (by simpa using h);show(gC u ++ bO hs).take ((k+1)*3) ++ gC s ++ (gC u ++ bO hs).drop ((k+1)*3+3)=gC u ++ bO (hs.set k s);rw[<-ih,show(k+1)*3=3+k*3 by omega,show 3+k*3+3=3+(k*3+3) by omega];have e1:(gC u ++ bO hs).take (3+k*3)=gC u ++ (bO hs).take (k*3):=List.take_length_add_append (l₁:=gC u) (k*3);have e2:(gC u ++ bO hs).drop (3+(k*3+3))=(bO hs).drop (k*3+3):=by rw[<-List.drop_drop];rfl
  rw[e1,e2,List.append_assoc,List.append_assoc,List.append_assoc]
theorem me:∀{hs:List bw}{k:Nat}{s:bw},hs[k]? = ξ s->((bO hs).drop (k*3)).take 3=gC s
 | [],k,s,h=>by simp at h
 | u :: hs,0,s,h=>by
  obtain rfl:=Option.some.inj h;rfl
 | u :: hs,k+1,s,h=>by
  have ih:=me (hs:=hs) (k:=k) (s:=s) h;show((gC u ++ bO hs).drop ((k+1)*3)).take 3=_;rw[show(k+1)*3=3+k*3 by omega,<-List.drop_drop];exact ih
namespace Eva
theorem IP:uH Tryz.prog 50 3 24=true:=by kernel_rfl
section
variable {h h' h0:AH}{Q:Value->AH->Prop}{A:Option Addr}{n K:Nat}{hs:List bw}{t:TypeId}
theorem al.flatH (o:al aN h (ah A) t A n K hs):hs.length=n/\((A=ν/\n=0)\/∃g,A=ξ ⟨g,0,ν⟩/\g<h.next/\Bk h g (bO hs) t):=by
 obtain⟨hl,o⟩:=o;refine⟨hl,?_⟩;rcases o with⟨rfl,rfl,_⟩ | ⟨g,cells,rfl,-,h2,h3,h4,-,-,h7⟩
 .exact .inl ⟨rfl,rfl⟩
 .refine .inr ⟨g,rfl,h2,?_⟩;have:cells=bO hs:=va (by rw[h4,hl];rfl) λk s hk=>h7 k s hk;rw[<-this];exact h3
theorem D1 {F:Nat->Prop}{g:Nat}(hb:Bk h g (bO hs) t) (hF:F g) (hg:g<h.next) (K:Nat):Sa aN F h (ξ ⟨g,0,ν⟩) hs.length K hs:=Sa.of_bk hb rfl hF hg λk s hk=>me hk
theorem Cx (o:al aN h (ah A) 50 A n K hs) (hn:n<=100000) (hK:∀h',Sa aN (ah A) h' A n K hs.reverse->Mt (ah A) h h'->h'.next=h.next->Q (.tuple #[]) h'):WC Tryz.prog 161 [ω A n K] h Q:=by
 obtain⟨hl,ho⟩:=o.flatH;have w0:IntKind.i64.wrap ((n:Int) - 1)=(n:Int) - 1:=af U U;refine dw ⟨_,w0,λm x y h1=>∃(i:Nat) (ws:List bw),x=i/\y=(n:Int) - 1 - i/\i<=n/\m=n - i/\ws.length=n/\(∀k,k<n->ws[k]? = if k<i\/n<=k+i then hs[n - 1 - k]? else hs[k]?)/\(∀g,A=ξ ⟨g,0,ν⟩->Bk h1 g (bO ws) 50)/\h1.next=h.next/\(∀b,¬ah A b->h1.get b=h.get b),n,⟨0,hs,rfl,U,Nat.zero_le _,rfl,hl,λk hk=>by rw[if_neg U],λg hA=>?_,rfl,λ_ _=>rfl⟩,?_⟩
 .rcases ho with⟨h1,_⟩ | ⟨g',h1,_,h3⟩
  .rw[h1]at hA;cases hA
  .rw[h1]at hA;injection hA with hA;injection hA with hA;subst hA;exact h3
 rintro m x y h1 ⟨i,ws,rfl,rfl,hi,rfl,hwl,hws,hb,hz,hoth⟩;refine⟨λhlt=>?_,λhge=>?_⟩
 .obtain⟨g,rfl,hg⟩:∃g,A=ξ ⟨g,0,ν⟩/\g<h.next:=by
   rcases ho with⟨_,h1⟩ | ⟨g,h1,h2,_⟩
   .omega
   .exact⟨g,h1,h2⟩
  have b1:=hb g rfl;obtain⟨j,hj⟩:∃j,n - 1 - i=j:=⟨_,rfl⟩;obtain⟨u,hu⟩:∃u,ws[j]? = ξ u:=⟨_,List.getElem?_eq_getElem U⟩;obtain⟨v,hv⟩:∃v,ws[i]? = ξ v:=⟨_,List.getElem?_eq_getElem U⟩;have rd:∀{k:Nat}{s:bw},ws[k]? = ξ s->au h1 g (0+k*3) 3=ξ [ψ η s.1,ψ η s.2.1,ψ η s.2.2]:=fun {k s} hk=>by
   have:=(List.getElem?_eq_some_iff.1 hk).1;rw[Nat.zero_add,bX b1 (by rw[md];omega),me hk];rfl
  have wr3:∀{ws:List bw}{h1:AH}{k:Nat}(s:bw),Bk h1 g (bO ws) 50->k<ws.length->∃h2,iE h1 g (0+k*3) [ψ η s.1,ψ η s.2.1,ψ η s.2.2]=ξ h2/\Bk h2 g (bO (ws.set k s)) 50/\h2.next=h1.next/\∀b,b≠g->h2.get b=h1.get b:=fun {ws h1 k} s hb hk=>by
   refine⟨_,Fc hb (by rw[md,Nat.zero_add];show k*3+3<=_;omega) (eC rfl rfl rfl),?_,rfl,λb hb=>by rw[get_put,if_neg hb]⟩;show(h1.put g _).get g=_;rw[get_put,if_pos rfl,Nat.zero_add];show ξ (AO.cells ((bO ws).take (k*3) ++ gC s ++ (bO ws).drop (k*3+3)) 50 false)=_;rw[rt hk]
  have wi:IntKind.i64.wrap ((i:Int)+1)=((i+1:Nat):Int):=by rw[Int.natCast_succ];exact af U U
  have wj:IntKind.i64.wrap ((j:Int) - 1)=(n:Int) - 1 - ((i+1:Nat):Int):=by
   rw[af U U];omega
  obtain⟨h2,s2,b2,z2,o2⟩:=wr3 u b1 (k:=i) U;obtain⟨h3,s3,b3,z3,o3⟩:=wr3 v b2 (k:=j) (by simp;omega);refine⟨j,U,g,0,rfl,U,_,_,_,rd hu,i,rfl,U,_,_,_,rd hv,U,h2,s2,U,h3,s3,_,wi,_,wj,n - (i+1),U,i+1,(ws.set i u).set j v,rfl,rfl,U,rfl,by simp[hwl],λk hk=>?_,λg' hA=>?_,U,λb hn=>(o3 b (λe=>hn e)).trans ((o2 b (λe=>hn e)).trans (hoth b hn))⟩
  .rw[List.getElem?_set,List.getElem?_set];have e1:=hws i U;have e2:=hws j U;rw[if_neg U,hv]at e1;rw[if_neg U,hu]at e2;by_cases k1:j=k
   .subst k1;rw[if_pos rfl,if_pos (by simp;omega),if_pos U];rw[e1]
    congr 1
    omega
   .rw[if_neg k1];by_cases k2:i=k
    .subst k2;rw[if_pos rfl,if_pos U,if_pos U,e2]
     congr 1
     omega
    .rw[if_neg k2,hws k hk];by_cases k3:k<i\/n<=k+i
     .rw[if_pos k3,if_pos U]
     .rw[if_neg k3,if_neg U]
  .injection hA with hA;injection hA with hA;subst hA;exact b3
 .have hrev:ws=hs.reverse:=by
   apply List.ext_getElem?;intro k;by_cases hk:k<n
   .rw[hws k hk,List.getElem?_reverse U,hl];by_cases k3:k<i\/n<=k+i
    .rw[if_pos k3]
    .rw[if_neg k3]
     congr 1
     omega
   .rw[List.getElem?_eq_none U,List.getElem?_eq_none (by simp;omega)]
  subst hrev;refine hK h1 ?_ ⟨U,λb _ hn=>hoth b hn⟩ hz;rcases ho with⟨rfl,rfl⟩ | ⟨g,rfl,hg,-⟩
  .have:hs = []:=List.eq_nil_of_length_eq_zero hl;subst this;rcases o.2 with⟨_,_,rfl⟩ | ⟨g,_,h9,_⟩
   .exact⟨rfl,.inl ⟨rfl,rfl,rfl⟩,λh=>absurd h (Nat.lt_irrefl _)⟩
   .cases h9
  .have:=D1 (F:=ah (ξ ⟨g,0,ν⟩)) (hb g rfl) rfl U K
   rwa [hwl]at this
end
section
variable {h h0:AH}{Q:Value->AH->Prop}{Fa F Fo:Nat->Prop}{N:ab}{p:List (List Int)}{g o C s t q mp bf:Nat}{cA:Option Addr}{cK:Nat}{D:Nat->Prop}
theorem zI (G:eA h Fa F g N) (O:eL h Fo o N p) (hK:∀q mp bf cA cK D h',QA h N p g o C s t q mp bf cA cK D h'->Bk h' bf ((List.replicate N.na (0:Int)).map (Value.int .i64)) 3->Q (μ (ξ ⟨q,0,ν⟩)) h') :
  WC Tryz.prog 32 [μ (ξ ⟨g,0,ν⟩),μ (ξ ⟨o,0,ν⟩),ω (ξ ⟨C,0,ν⟩) (N.size p) (cx (N.size p)),ψ η s,ψ η t] h Q:=by
 have hna:=G.few.2;refine oV (yh O λA2 K2 h1 s1 k1=>⟨_,_,_,rfl,λh2 e2=>?_⟩);obtain⟨k2,g2,z2⟩:=aj e2;refine mB (G.nw (k1.trans k2)) ⟨_,rfl,N.na,rfl,U,λh4 e4 h5 e5=>?_⟩;obtain⟨k4,g4,z4⟩:=aj e4;obtain⟨k5,g5,z5⟩:=aj e5;have z1:=k1.next;rw[a9]at g4;have k25:=k4.trans k5;refine hK h4.next h1.next h2.next A2 K2 (λb=>h.next<=b/\b<h1.next) h5 ⟨((k1.trans k2).trans k25),g5,((s1.mono λb hb hlt=>⟨hb,hlt⟩).nw k2).nw k25,⟨λ_=>ν,(dP.new g2).keep (k25.get _ U),λl c v hv=>by cases hv⟩,λb hb=>U,U⟩ ?_;have:=k5.bk U g4;rw[List.map_replicate];exact this
end
end Eva
end
section
open Go Go.RowKit
def vb (N:ab) (c:Nat) (ol:List Nat) (pr:List Int) (i:Nat):Option (Nat×Nat):=
 match ol[i]?,pr[i]? with
 | some b,ξ x=>if jl [(c:Int),x,N.w b]<an then ξ (b,(jl [(c:Int),x,N.w b]).toNat) else ν
 | _,_=>ν
def mW (N:ab) (c:Nat) (ol:List Nat) (pr:List Int) (j:Nat):List (Nat×Nat):=(List.range j).filterMap (vb N c ol pr)
theorem mf (N:ab) (c:Nat) (ol:List Nat) (pr:List Int) (j:Nat):mW N c ol pr (j+1)=mW N c ol pr j ++ (vb N c ol pr j).toList:=by
 unfold mW;rw[List.range_succ,List.filterMap_append];cases h:vb N c ol pr j <;>simp[List.filterMap_cons,h]
theorem FM {c x w:Int}(hc:0<=c/\c<=an) (hx:0<=x/\x<=an) (hw:0<=w/\w<=an):jl [c,x,w]=min (c+x+w) an:=by
 unfold an at *;show ck (ck (ck 0 c) x) w=_;rw[iK,iK,iK,cD (a:=0) U U,cD hc.1 hc.2,cD hx.1 hx.2,cD hw.1 hw.2,cD (a:=min (0+c) 1152921504606846976) U U,cD (a:=min (min (0+c) 1152921504606846976+x) 1152921504606846976) U U];omega
theorem vc {N:ab}{c n b y:Nat}{ol:List Nat}{pr:List Int}:(b,y)∈mW N c ol pr n↔∃i x,i<n/\ol[i]? = ξ b/\pr[i]? = ξ x/\jl [(c:Int),x,N.w b]<an/\y=(jl [(c:Int),x,N.w b]).toNat:=by
 unfold mW;rw[List.mem_filterMap];constructor
 .rintro⟨i,hi,h⟩;unfold vb at h;cases h1:ol[i]? with
  | none=>rw[h1]at h;cases h
  | some b'=>
   cases h2:pr[i]? with
   | none=>rw[h1,h2]at h;cases h
   | some x=>
    rw[h1,h2]at h;simp only at h;by_cases h3:jl [(c:Int),x,N.w b']<an
    .rw[if_pos h3]at h;obtain h4:=Option.some.inj h;injection h4 with h5 h6;subst h5;exact⟨i,x,by simpa using hi,h1,h2,h3,h6.symm⟩
    .rw[if_neg h3]at h;cases h
 .rintro⟨i,x,hi,h1,h2,h3,rfl⟩;refine⟨i,by simpa using hi,?_⟩;unfold vb;rw[h1,h2];simp only;rw[if_pos h3]
section
variable {N:ab}{p:List (List Int)}{costs:List Int}{s t a c:Nat}{ol:List Nat}{pr:List Int}
theorem mD.put (hR:mD N p costs s t a ol pr) (hok:N.Ok) (hc:c<aH){b x:Nat}(h:N.le p costs s t a b=ξ x) (hx:c+x<aH):(b,c+x)∈mW N c ol pr ol.length:=by
 obtain⟨i,y,h1,h2,h3,h4,rfl⟩:=hR.all b x h;have hy:=hR.nn y (List.mem_of_getElem? h2);have hw:=ab.w_bd hok b;have h5:=FM (c:=(c:Int)) (x:=y) (w:=N.w b) (by unfold an aH at *;omega) hy (by unfold an at *;omega);refine vc.2 ⟨i,y,(List.getElem?_eq_some_iff.1 h1).1,h1,h2,?_,?_⟩
 .rw[h5];unfold an aH at *;omega
 .rw[h5];unfold an aH at *;omega
theorem mD.step (hR:mD N p costs s t a ol pr) (hok:N.Ok) (hc:c<aH){b y:Nat}(h:(b,y)∈mW N c ol pr ol.length):y<aH/\b<N.na/\∃x,N.le p costs s t a b=ξ x/\y=c+x:=by
 obtain⟨i,x,hi,h1,h2,h3,rfl⟩:=vc.1 h;have hy:=hR.nn x (List.mem_of_getElem? h2);have hw:=ab.w_bd hok b;have h5:=FM (c:=(c:Int)) (x:=x) (w:=N.w b) (by unfold an aH at *;omega) hy (by unfold an at *;omega);rw[h5]at h3⊢;refine⟨by unfold an aH at *;omega,hR.lt b (List.mem_of_getElem? h1),_,hR.here i b x h1 h2 (by unfold an at *;omega) (by unfold an at *;omega),by unfold an at *;omega⟩
end
theorem ym {par:Nat->Nat}{k a n:Nat}(hk:k<n):((List.range n).map λb=>((par b:Nat):Int)).set k (a:Int)=(List.range n).map λb=>((upd par k a b:Nat):Int):=by
 apply List.ext_getElem?;intro i;rw[List.getElem?_set];by_cases e:k=i
 .subst e;simp[hk,upd]
 .simp only[if_neg e,List.getElem?_map];by_cases hi:i<n
  .simp[List.getElem?_range hi,upd,Ne.symm e]
  .rw[List.getElem?_eq_none (by simpa using hi)];rfl
namespace Eva
section
variable {h h0:AH}{Q:Value->AH->Prop}{Fa F Fo:Nat->Prop}{N:ab}{p:List (List Int)}{g o C s t q mp bf:Nat}{cA:Option Addr}{cK:Nat}{D:Nat->Prop}{costs:List Int}
theorem GW (B:QA h0 N p g o C s t q mp bf cA cK D h) (G:eA h0 Fa F g N) (hp:aB N.nv p) (hs:s<N.na) (ht:t<N.na){par rank:Nat->Nat}{done w:Nat->Option Nat}{cnt c:Nat}(hb:Bk h bf ((List.range N.na).map λb=>Value.int .i64 ((par b:Nat):Int)) 3)
  (hP:Bp aH (N.le p costs s t) s done w par rank cnt) (hdn:∀a x,done a=ξ x->a<N.na) (hcnt:cnt<=1000) (hw:w t=ξ c) (hnt:done t=ν)
  (hK:∀(A:Option Addr) (n K:Nat) (hs:List bw) (h':AH),Sa aN (λb=>h.next<=b) h' A n K hs->cY (N.le p costs s t) (λa=>N.lev p s t (N.to a)) s t c hs->hs.length<=cnt+1->(s=t->hs = [])->Nw h h'->Q (ω A n K) h') :
  WC Tryz.prog 81 [μ (ξ ⟨q,0,ν⟩)] h Q:=by
 obtain⟨P1,P2,P3,P4,P5,P6,P7,P8,P9⟩:=B.pos;have hna:=G.few.2;refine lS ⟨q,0,rfl,t,aa B.blk rfl,λm A1 n1 K1 x h1=>∃(b cb:Nat) (l:List bw),x=b/\b<N.na/\al aN h1 (ah A1) 50 A1 n1 K1 l/\(∀z,ah A1 z->h.next<=z)/\Nw h h1/\n1+m<=cnt+1/\(b=s->cb=0)/\(b≠s->∃ca y,done (par b)=ξ ca/\N.le p costs s t (par b) b=ξ y/\cb=ca+y/\rank (par b)<m)/\
  (∀hs0,cY (N.le p costs s t) (λa=>N.lev p s t (N.to a)) s b cb hs0->cY (N.le p costs s t) (λa=>N.lev p s t (N.to a)) s t c (hs0 ++ l.reverse))/\(s=t->b=s/\l = []),cnt+1,⟨t,c,[],rfl,ht,al.nil _ _ _ _,λz hz=>hz.elim,Nw.refl _,U,λe=>hP.zero c (.inr (e ▸ hw)),λe=>?_,λhs0 h=>by simpa using h,λe=>⟨e.symm,rfl⟩⟩,?_⟩
 .obtain⟨ca,y,h1,h2,h3⟩:=hP.step t c e (.inr hw);exact⟨ca,y,h1,h2,h3,by have:=hP.rank_lt _ _ h1;omega⟩
 rintro m A1 n1 K1 x h1 ⟨b,cb,l,rfl,hbn,o1,lo1,k1,hm,hbs,hbp,hsuf,hst⟩;have B1:=B.next k1;refine⟨s,aa B1.blk rfl,λhe=>?_,λhne=>?_⟩
 .have he':b=s:=U;subst he';obtain rfl:=hbs rfl;have hfin:=hsuf [] .nil;rw[List.nil_append]at hfin;exact Cx o1 U λh2 s2 m2 z2=>⟨rfl,hK A1 n1 K1 l.reverse h2 (s2.mono λz hz _=>lo1 z hz) hfin (by have:=o1.len;rw[List.length_reverse];omega) (λe=>by rw[(hst e).2];rfl) (m2.is_nw k1 lo1)⟩
 .obtain⟨ca,y,h2,h3,h4,h5⟩:=hbp (λe=>hne (by rw[e]));have hpn:=hdn _ _ h2;have rd:∀h2,Nw h h2->ldC h2 bf (0+b)=ξ (ψ η ((par b:Nat):Int)):=λh2 k2=>by
   rw[aT (k2.bk P9 hb),Nat.zero_add];simp[hbn]
  refine⟨_,_,_,aa B1.blk rfl,b,rfl,bf,0,rfl,hbn,_,rd h1 k1,Ch B1 G hp hs ht hpn ⟨_,rfl,λh4' e4=>?_⟩⟩;obtain⟨k4,g4,z4⟩:=aj e4;have hz:Sz aN (λz=>z=h1.next) h4' (ξ ⟨h1.next,0,ν⟩) 1 2 [(((N.lev p s t (N.to (par b)):Nat):Int),((par b:Nat):Int),(b:Int))]:=Sz.one g4 rfl U rfl rfl;obtain⟨A',K',h5',y1,y2,y3,y4⟩:=aV (em _ _ _) (r:=aN) IP (o1.nw k4) hz U U;have z1:=k1.next;have z5:=y3.next;have k5:Nw h h5':=y3.is_nw (k1.trans k4) lo1;have B5:=B.next k5;refine⟨A',n1+1,K',h5',y1,_,_,_,aa B5.blk rfl,bf,0,rfl,hbn,_,rd h5' k5,rank (par b),h5,par b,ca,_,rfl,hpn,y2,λz hz=>(y4 z hz).elim (lo1 z) (λh=>U),k5,U,λe=>hP.zero ca (.inl (e ▸ h2)),λe=>?_,λhs0 hh=>?_,λe=>absurd (by rw[(hst e).1]) hne⟩
  .obtain⟨ca',y',q1,q2,q3⟩:=hP.step _ ca e (.inl h2);exact⟨ca',y',q1,q2,q3,hP.earlier _ ca e h2⟩
  .rw[List.reverse_append,List.reverse_singleton,<-List.append_assoc];refine hsuf _ ?_;rw[h4];exact .snoc hh h3
end
end Eva
end
section
open Go Go.RowKit
inductive cZ (N:ab) (s:Nat):Nat->Nat->List Nat->Prop
 | nil:cZ N s s 0 []
 | snoc {a b c x:Nat}{l:List Nat}:cZ N s a c l->N.e a b=ξ x->cZ N s b (c+x) (l ++ [b])
section
variable {N:ab}{s a b c y:Nat}{l l2:List Nat}{P:Nat->Prop}
theorem cZ.rows (h:bm N.e N.tr P b a y l2) (hw:N.w b<an):∀{c:Nat}{l:List Nat},cZ N s a c l->cZ N s b (c+(y+(N.w b).toNat)) (l ++ l2):=by
 induction h with
 | @last a y h=>
  intro c l W;obtain⟨h3,rfl⟩:=ab.tr_some.1 h;exact .snoc W (ab.e_some.2 ⟨h3,hw,rfl⟩)
 | @on a m x c' l2 h1 h2 h3 ih=>
  intro c l W;have:=ih (cZ.snoc W h1);rw[List.append_assoc]at this;have e:c+x+(c' + (N.w b).toNat)=c+(x+c' + (N.w b).toNat):=U;rw[e]at this;exact this
theorem cZ.end_ (h:cZ N s a c l):(l = []/\a=s)\/∃l',l=l' ++ [a]:=by
 cases h with
 | nil=>exact .inl ⟨rfl,rfl⟩
 | snoc _ _=>exact .inr ⟨_,rfl⟩
theorem cZ.lt (h:cZ N s a c l):∀b∈l,b<N.na:=by
 induction h with
 | nil=>intro b hb;cases hb
 | @snoc a b c x l h1 h2 ih=>
  intro z hz;rcases List.mem_append.1 hz with hz | hz
  .exact ih z hz
  .have:z=b:=by simpa using hz
   rw[this];exact zq h2
def CZ (N:ab):Nat->List Nat->Int->Int
 | _,[],c=>c
 | a,b :: l,c=>CZ N b l (ck c (ck (N.turn a b) (N.w b)))
def Cy (N:ab):Nat->List Nat->Prop
 | _,[]=>True
 | a,b :: l=>N.turn a b<an/\N.w b<an/\Cy N b l
theorem yp (N:ab):∀(l:List Nat) (a b:Nat) (c:Int),CZ N a (l ++ [b]) c=ck (CZ N a l c) (ck (N.turn ((l.getLast?).getD a) b) (N.w b))
 | [],a,b,c=>rfl
 | x :: l,a,b,c=>by
  show CZ N x (l ++ [b]) _=ck (CZ N x l _) _;rw[yp N l x b]
  congr 3
  cases l with
  | nil=>rfl
  | cons y l=>simp[List.getLast?_cons]
theorem yq (N:ab):∀(l:List Nat) (a b:Nat),Cy N a (l ++ [b])↔Cy N a l/\N.turn ((l.getLast?).getD a) b<an/\N.w b<an
 | [],a,b=>by simp[Cy]
 | x :: l,a,b=>by
  show(N.turn a x<an/\N.w x<an/\Cy N x (l ++ [b]))↔(N.turn a x<an/\N.w x<an/\Cy N x l)/\_;rw[yq N l x b];have e:((x :: l).getLast?).getD a=(l.getLast?).getD x:=by
   cases l with
   | nil=>rfl
   | cons y l=>simp[List.getLast?_cons]
  rw[e];constructor
  .rintro⟨h1,h2,h3,h4⟩;exact⟨⟨h1,h2,h3⟩,h4⟩
  .rintro⟨⟨h1,h2,h3⟩,h4⟩;exact⟨h1,h2,h3,h4⟩
theorem cZ.last (h:cZ N s a c l):(l.getLast?).getD s=a:=by
 rcases h.end_ with⟨rfl,rfl⟩ | ⟨l',rfl⟩
 .rfl
 .simp
theorem cZ.ok (hok:N.Ok) (h:cZ N s a c l):Cy N s l:=by
 induction h with
 | nil=>trivial
 | @snoc a b c x l h1 h2 ih=>
  obtain⟨g1,g2,-⟩:=ab.e_some.1 h2;exact(yq N l s b).2 ⟨ih,by rw[h1.last];exact g1,g2⟩
theorem cZ.cost (hok:N.Ok) (h:cZ N s a c l):c<aH->CZ N s l 0=c:=by
 induction h with
 | nil=>intro _;rfl
 | @snoc a b c x l h1 h2 ih=>
  intro hc;obtain⟨g1,g2,rfl⟩:=ab.e_some.1 h2;have ih:=ih (by unfold aH at *;omega);have hb:=ab.turn_bd hok a b;have hw:=ab.w_bd hok b;rw[yp,h1.last,ih,uF (c:=N.turn a b) (by unfold an at *;omega) (by unfold an at *;omega),uF (by unfold an aH at *;omega) (by unfold an at *;omega)];unfold an aH at *;omega
end
section
variable {e:Nat->Nat->Option Nat}{lev:Nat->Nat}{s b c b' c':Nat}{hs:List bw}
theorem cY.det (h:cY e lev s b c hs):∀{b' c':Nat},cY e lev s b' c' hs->b=b'/\c=c':=by
 induction h with
 | nil=>
  intro b' c' h';obtain⟨l,hl⟩:∃l,([]:List bw)=l:=⟨_,rfl⟩;rw[hl]at h';cases h' with
  | nil=>exact⟨rfl,rfl⟩
  | snoc g1 g2=>simp at hl
 | @snoc a b c x hs h1 h2 ih=>
  intro b' c' h';obtain⟨l,hl⟩:∃l,hs ++ [((lev a:Int),(a:Int),(b:Int))]=l:=⟨_,rfl⟩;rw[hl]at h';cases h' with
  | nil=>simp at hl
  | @snoc a2 b2 c2 x2 hs2 g1 g2=>
   obtain⟨e1,e2⟩:=List.append_inj' hl rfl;subst e1;have e3:=List.head_eq_of_cons_eq e2;injection e3 with e4 e5;injection e5 with e6 e7;obtain rfl:a=a2:=U;obtain rfl:b=b':=U;obtain⟨-,rfl⟩:=ih g1;rw[h2]at g2;obtain rfl:=Option.some.inj g2;exact⟨rfl,rfl⟩
theorem cY.pre (h:cY e lev s b c hs):∀i,i<hs.length->∃a b' c' x:Nat,cY e lev s a c' (hs.take i)/\hs[i]? = ξ ((lev a:Int),(a:Int),(b':Int))/\e a b' = ξ x/\cY e lev s b' (c' + x) (hs.take (i+1)):=by
 induction h with
 | nil=>intro i hi;simp at hi
 | @snoc a b c x hs h1 h2 ih=>
  intro i hi;rw[List.length_append]at hi;simp at hi;by_cases hl:i<hs.length
  .obtain⟨a',b',c',x',g1,g2,g3,g4⟩:=ih i hl;refine⟨a',b',c',x',?_,?_,g3,?_⟩
   .rw[List.take_append_of_le_length U];exact g1
   .rw[List.getElem?_append_left hl];exact g2
   .rw[List.take_append_of_le_length U];exact g4
  .obtain rfl:i=hs.length:=U;refine⟨a,b,c,x,?_,?_,h2,?_⟩
   .rw[List.take_append_of_le_length U,List.take_length];exact h1
   .rw[List.getElem?_append_right U,Nat.sub_self];rfl
   .rw[List.take_of_length_le (by simp)];exact .snoc h1 h2
theorem cY.whole (h:cY e lev s b c hs){i:Nat}(hi:hs.length<=i) (h':cY e lev s b' c' (hs.take i)):b' = b/\c' = c:=by
 rw[List.take_of_length_le hi]at h';exact h'.det h
end
end
section
open Go Go.RowKit
section
variable {N:ab}{p:List (List Int)}{costs:List Int}{s t a b c x i b0 c0:Nat}{l l2:List Nat}{hops:List bw}
theorem vd (h:N.le p costs s t a b=ξ x):(N.lev p s t (N.to a)=0/\N.e a b=ξ x)\/∃k,N.lev p s t (N.to a)=k/\1<=k/\k<=p.length/\a<N.na/\b<N.na/\N.inA p k (ap p k (N.to a)) a/\N.outA p k (ap p k (N.to a)) b/\N.ent p costs k a b<an/\N.w b<an/\x=(N.ent p costs k a b).toNat+(N.w b).toNat:=by
 unfold ab.le kH at h;by_cases hl:N.lev p s t (N.to a)=0
 .rw[if_pos hl]at h;exact .inl ⟨hl,h⟩
 .rw[if_neg hl]at h;obtain⟨h1,h2,h3,h4,h5,h6,h7⟩:=nz.1 h;exact .inr ⟨_,rfl,U,iJ _ _ _ _ _,h1,h2,h3,h4,h5,h6,h7⟩
structure th (N:ab) (p:List (List Int)) (costs:List Int) (s t:Nat) (hops:List bw) (i a c:Nat) (l:List Nat):Prop where
 at_:cY (N.le p costs s t) (λa=>N.lev p s t (N.to a)) s a c (hops.take i)
 walk:cZ N s a c l
 le:i<=l.length
 len:l.length<=i*17596287801
theorem th.start:th N p costs s t hops 0 s 0 []:=⟨by rw[List.take_zero];exact .nil,.nil,Nat.le_refl _,Nat.le_refl _⟩
theorem th.step (I:th N p costs s t hops i a c l) (H:cY (N.le p costs s t) (λa=>N.lev p s t (N.to a)) s b0 c0 hops) (hi:i<hops.length) :
  ∃b x:Nat,hops[i]? = ξ ((N.lev p s t (N.to a):Int),(a:Int),(b:Int))/\N.le p costs s t a b=ξ x/\∀l2:List Nat,l2≠[]->l2.length<=17596287801->cZ N s b (c+x) (l ++ l2)->th N p costs s t hops (i+1) b (c+x) (l ++ l2):=by
 obtain⟨a2,b,c2,x,h1,h2,h3,h4⟩:=H.pre i hi;obtain⟨rfl,rfl⟩:=h1.det I.at_;refine⟨b,x,h2,h3,λl2 hl hl2 hw=>⟨h4,hw,?_,?_⟩⟩
 .have:=I.le;have:0<l2.length:=List.length_pos_iff.2 hl;rw[List.length_append];omega
 .have:=I.len;rw[List.length_append,Nat.succ_mul];omega
theorem th.done (I:th N p costs s t hops i a c l) (H:cY (N.le p costs s t) (λa=>N.lev p s t (N.to a)) s b0 c0 hops) (hi:hops.length<=i):a=b0/\c=c0:=by
 obtain⟨h1,h2⟩:=H.whole hi I.at_;exact⟨h1,h2⟩
end
end
section
open Go Go.RowKit
section
variable {M:ab}
theorem wS:∀{l:List Nat}{s j a b:Nat},Cy M s l->(s :: l)[j]? = ξ a->(s :: l)[j+1]? = ξ b->M.turn a b<an/\M.w b<an
 | [],s,j,a,b,h,ha,hb=>by simp at hb
 | x :: l,s,0,a,b,h,ha,hb=>by
  obtain rfl:s=a:=by simpa using ha
  obtain rfl:x=b:=by simpa using hb
  exact⟨h.1,h.2.1⟩
 | x :: l,s,j+1,a,b,h,ha,hb=>wS (l:=l) (s:=x) (j:=j) h.2.2 (by simpa using ha) (by simpa using hb)
theorem GX {l:List Nat}{s:Nat}(h:Cy M s l) (hs:M.w s<an):∀{j b:Nat},(s :: l)[j]? = ξ b->M.w b<an
 | 0,b,hb=>by
  obtain rfl:s=b:=by simpa using hb
  exact hs
 | j+1,b,hb=>by
  obtain⟨a,ha⟩:∃a,(s :: l)[j]? = ξ a:=⟨_,List.getElem?_eq_getElem (by have:=(List.getElem?_eq_some_iff.1 hb).1;omega)⟩;exact(wS h ha hb).2
end
namespace Eva
section
variable {h h':AH}{F G H:Nat->Prop}{Q:Value->AH->Prop}{A Av Aa At Ac Ar:Option Addr}{n nv Kv na Ka nt Kt nr Kr s g K K':Nat}{M:ab}{l:List Nat}{x:Int}{xs:List Int}
theorem Sz.tail1 (hs:Sz cI F h (ξ ⟨g,0,ν⟩) (1+n) K (x :: xs)):Sz cI F h (ξ ⟨g,1,ν⟩) n K' xs:=by
 refine⟨by have:=hs.len;simp at this;omega,λh0=>?_⟩;obtain⟨b,o,hA,hF,hb,hx⟩:=hs.at_ U;injection hA with hA;injection hA with hA1 hA2;subst hA1 hA2;refine⟨g,1,rfl,hF,hb,λk y hk=>?_⟩;obtain⟨cs,q1,q2⟩:=hx (k+1) y (by simpa using hk);refine⟨cs,λj u hu=>?_,q2⟩;have:=q1 j u hu;have e:1+(k*cI.size+j)=0+((k+1)*cI.size+j):=by
  show 1+(k*1+j)=0+((k+1)*1+j);omega
 rw[e];exact this
theorem Sz.rdn {ns:List Nat}(hs:Sz cI F h A n K (ints ns)) (hn:0<n):∃b o,A=ξ ⟨b,o,ν⟩/\F b/\b<h.next/\∀{h':AH},Nw h h'->∀{j x:Nat},ns[j]? = ξ x->ldC h' b (o+j)=ξ (ψ η (x:Int)):=by
 obtain⟨b,o,hA,hF,hb,hx⟩:=hs.at_ hn;refine⟨b,o,hA,hF,hb,fun {h'} a {j x} hj=>?_⟩;obtain⟨cs,q1,q2⟩:=hx j (x:Int) (by simp[ints,hj]);have q2':cs = [ψ η (x:Int)]:=q2;have:=q1 0 (ψ η (x:Int)) (by rw[q2'];rfl);rw[a.ldC hb];simpa[Rc.int]using this
theorem cq.rdA (Z:cq h F Av nv Kv Aa na Ka At nt Kt M) (hna:0<na):∃b o,Aa=ξ ⟨b,o,ν⟩/\b<h.next/\∀{h':AH},Nw h h'->∀{j:Nat},j<M.na->ldC h' b (o+j*3+2)=ξ (ψ η (M.w j)):=by
 obtain⟨ba,oa,hAa,-,hba,hxa⟩:=Z.xa.at_ hna;refine⟨ba,oa,hAa,hba,fun {h'} a {j} hj=>?_⟩;obtain⟨cs,q1,q2⟩:=hxa j _ (ab.arc_get hj);have q2':cs = [ψ η (M.arc j).1,ψ η (M.arc j).2.1,ψ η (M.arc j).2.2]:=q2;have ew:M.w j=(M.arc j).2.2:=by unfold ab.w;rw[if_pos hj]
 rw[<-ew]at q2';have:=q1 2 (ψ η (M.w j)) (by rw[q2'];rfl);rw[a.ldC hba];simpa[Rc.tri,Nat.add_assoc]using this
theorem Cz (Z0:cq h F Av nv Kv Aa na Ka At nt Kt M) (ok:M.Ok) (hna:M.na<=1000) (hr0:Sz cI H h Ar nr Kr (ints (s :: l))) (hnr:nr<=8000000000000) (hlt:∀b∈s :: l,b<M.na) (hw:M.w s<an) (hW:Cy M s l)
  (hK:∀h',Nw h h'->Q (.bool true) h') :
  WC Tryz.prog 12 [.agg #[ω Av nv Kv,ω Aa na Ka,ω At nt Kt],ω Ar nr Kr] h Q:=by
 have Z:=Z0.old;have hr:Sz cI (λz=>z<h.next) h Ar nr Kr (ints (s :: l)):=hr0.mono λz _ hz=>hz;have la:M.na=na:=Z.xa.len;have lr:l.length+1=nr:=by have:=hr.len;simpa[ints]using this
 have hsn:s<M.na:=hlt s (by simp);refine uq λh1 e1=>?_;obtain⟨k1,g1,z1⟩:=aj e1;have c0:∀{h'},Nw h1 h'->ldC h' h.next 0=ξ (ω Av nv Kv):=λa=>aa (a.bk U g1) rfl;have c1:∀{h'},Nw h1 h'->ldC h' h.next 1=ξ (ω Aa na Ka):=λa=>aa (a.bk U g1) rfl;have c2:∀{h'},Nw h1 h'->ldC h' h.next 2=ξ (ω At nt Kt):=λa=>aa (a.bk U g1) rfl;have bN:∀{h'},Nw h1 h'->au h' h.next 0 3=ξ [ω Av nv Kv,ω Aa na Ka,ω At nt Kt]:=λa=>aK (c0 a) (c1 a) (c2 a);obtain⟨b2,o2,hAr,-,hb2,rdR⟩:=hr.rdn U;obtain⟨ba,oa,hAa,hba,rdA⟩:=Z.rdA U;refine⟨λm x h2=>∃i:Nat,x=i/\i<=nr/\m=nr - i/\Nw h1 h2,nr,⟨0,rfl,Nat.zero_le _,rfl,Nw.refl _⟩,?_⟩;rintro m x h2 ⟨i,rfl,hi,rfl,k2⟩;have k02:=k1.trans k2;refine⟨λhlt2=>?_,λhge2=>?_⟩
 .obtain⟨b,hb⟩:∃b,(s :: l)[i]? = ξ b:=⟨_,List.getElem?_eq_getElem (by simp;omega)⟩;have hbn:=hlt b (List.mem_of_getElem? hb);have hwb:=GX hW hw hb;have wi1:IntKind.i64.wrap ((i:Int)+1)=((i+1:Nat):Int):=by rw[Int.natCast_succ];exact af U U
  refine⟨_,_,_,_,_,_,_,_,_,bN k2,i,rfl,b2,o2,hAr,U,_,rdR k02 hb,pH (Z.nw k02) λy h3 k3 hy=>⟨y,rfl,λhy1=>?_,λhy0=>?_⟩⟩
  .have k03:=k02.trans k3;refine⟨_,_,_,c1 (k2.trans k3),U,_,rdR k03 hb,b,rfl,ba,oa,hAa,U,_,rdA k03 hbn,λhe=>absurd he (by unfold an at hwb;omega),λhne=>⟨λhi0=>?_,λhi0=>?_⟩⟩
   .obtain⟨a,ha⟩:∃a,(s :: l)[i - 1]? = ξ a:=⟨_,List.getElem?_eq_getElem (by simp;omega)⟩;have han:=hlt a (List.mem_of_getElem? ha);have wj:IntKind.i64.wrap ((i:Int) - 1)=((i - 1:Nat):Int):=by rw[Int.natCast_sub U];exact af U U
    have hab:=wS hW ha (by rw[Nat.sub_add_cancel U];exact hb);refine⟨_,_,_,_,_,_,_,_,_,bN (k2.trans k3),_,wj,i - 1,rfl,U,_,rdR k03 ha,U,_,rdR k03 hb,wR (Z.nw k03) ok hna han hbn λh9 k9=>⟨_,rfl,λhe=>absurd he (by have:=hab.1;unfold an at this;omega),λhne=>⟨_,wi1,nr - (i+1),U,i+1,rfl,U,rfl,(k2.trans k3).trans k9⟩⟩⟩
   .exact⟨_,wi1,nr - (i+1),U,i+1,rfl,U,rfl,k2.trans k3⟩
  .rw[hy.2 ⟨U,U⟩]at hy0;cases hy0
 .exact⟨λ_=>hK h2 k02,λh=>absurd U h⟩
theorem FN (Z0:cq h F Av nv Kv Aa na Ka At nt Kt M) (ok:M.Ok) (hna:M.na<=1000) (hr0:Sz cI H h Ar nr Kr (ints (s :: l))) (hnr:nr<=8000000000000) (hlt:∀b∈s :: l,b<M.na) (hw:M.w s<an) (hW:Cy M s l)
  (hK:∀h',Nw h h'->Q (ψ η (CZ M s l 0)) h') :
  WC Tryz.prog 13 [.agg #[ω Av nv Kv,ω Aa na Ka,ω At nt Kt],ω Ar nr Kr] h Q:=by
 have Z:=Z0.old;have hr:Sz cI (λz=>z<h.next) h Ar nr Kr (ints (s :: l)):=hr0.mono λz _ hz=>hz;have la:M.na=na:=Z.xa.len;have lr:l.length+1=nr:=by have:=hr.len;simpa[ints]using this
 have hsn:s<M.na:=hlt s (by simp);refine ur λh1 e1=>?_;obtain⟨k1,g1,z1⟩:=aj e1;have c0:∀{h'},Nw h1 h'->ldC h' h.next 0=ξ (ω Av nv Kv):=λa=>aa (a.bk U g1) rfl;have c1:∀{h'},Nw h1 h'->ldC h' h.next 1=ξ (ω Aa na Ka):=λa=>aa (a.bk U g1) rfl;have c2:∀{h'},Nw h1 h'->ldC h' h.next 2=ξ (ω At nt Kt):=λa=>aa (a.bk U g1) rfl;have bN:∀{h'},Nw h1 h'->au h' h.next 0 3=ξ [ω Av nv Kv,ω Aa na Ka,ω At nt Kt]:=λa=>aK (c0 a) (c1 a) (c2 a);obtain⟨b2,o2,hAr,-,hb2,rdR⟩:=hr.rdn U;obtain⟨ba,oa,hAa,hba,rdA⟩:=Z.rdA U;subst hAa;refine⟨_,_,_,_,_,_,_,_,_,bN (Nw.refl _),Cz (Z.nw k1) ok hna (hr.nw k1) hnr hlt hw hW λh2 k2=>⟨true,rfl,λ_=>?_,λh=>Bool.noConfusion h⟩⟩;refine⟨λm x y h8=>∃j:Nat,y=j/\1<=j/\j<=nr/\m=nr - j/\Nw h1 h8/\∀a,(s :: l)[j - 1]? = ξ a->CZ M a ((s :: l).drop j) x=CZ M s l 0,nr - 1,⟨1,rfl,Nat.le_refl _,U,rfl,k2,λa ha=>?_⟩,?_⟩
 .obtain rfl:s=a:=by simpa using ha
  rfl
 rintro m x y h8 ⟨j,rfl,hj1,hji,rfl,k8,hg⟩;have k08:=k1.trans k8;obtain⟨a,ha⟩:∃a,(s :: l)[j - 1]? = ξ a:=⟨_,List.getElem?_eq_getElem (by simp;omega)⟩;have hga:=hg a ha;have han:=hlt a (List.mem_of_getElem? ha);refine⟨λhlt8=>?_,λhge8=>?_⟩
 .obtain⟨b,hb⟩:∃b,(s :: l)[j]? = ξ b:=⟨_,List.getElem?_eq_getElem (by simp;omega)⟩;have hbn:=hlt b (List.mem_of_getElem? hb);have hd:(s :: l).drop j=b :: (s :: l).drop (j+1):=by
   rw[List.drop_eq_getElem_cons (by simp;omega)];congr 1;exact(List.getElem?_eq_some_iff.1 hb).2
  rw[hd]at hga;have wj:IntKind.i64.wrap ((j:Int) - 1)=((j - 1:Nat):Int):=by rw[Int.natCast_sub hj1];exact af U U
  have wj1:IntKind.i64.wrap ((j:Int)+1)=((j+1:Nat):Int):=by rw[Int.natCast_succ];exact af U U
  refine⟨_,_,_,_,_,_,_,_,_,bN k8,_,wj,j - 1,rfl,b2,o2,hAr,U,_,rdR k08 ha,j,rfl,U,_,rdR k08 hb,_,_,_,c1 k8,U,_,rdR k08 hb,b,rfl,ba,oa,rfl,U,_,rdA k08 hbn,wR (Z.nw k08) ok hna han hbn λh9 k9=>⟨_,rfl,rdA (k08.trans k9) hbn,rdR (k08.trans k9) hb,c1 (k8.trans k9),uZ _ _ ⟨_,rfl,uZ _ _ ⟨_,rfl,_,wj1,nr - (j+1),U,j+1,rfl,U,U,rfl,k8.trans k9,λa' ha'=>?_⟩⟩⟩⟩;rw[Nat.add_sub_cancel,hb]at ha';obtain rfl:=Option.some.inj ha';exact hga
 .obtain rfl:j=nr:=U;rw[List.drop_of_length_le (by simp;omega)]at hga;have e:x=CZ M s l 0:=hga;subst e;exact hK h8 k08
end
end Eva
end
section
open Go Go.RowKit
open Classical in
noncomputable def ab.prc (N:ab) (p:List (List Int)) (costs:List Int) (j a b:Nat):Int:=
 if j=0 then N.turn a b else if a<N.na/\N.inA p j (ap p j (N.to a)) a/\b<N.na/\N.outA p j (ap p j (N.to a)) b then N.ent p costs j a b else an
structure mE (N:ab) (p:List (List Int)) (costs:List Int) (j a:Nat) (ol:List Nat) (pr:List Int):Prop where
 len:pr.length=ol.length
 lt:∀b∈ol,b<N.na
 nn:∀x∈pr,0<=x/\x<=an
 here:∀(i b:Nat) (x:Int),ol[i]? = ξ b->pr[i]? = ξ x->x=N.prc p costs j a b
 all:∀b,N.prc p costs j a b<an->b∈ol
 few:ol.length<=N.na
section
variable {N:ab}{p:List (List Int)}{costs:List Int}{a j:Nat}
theorem wT (hok:N.Ok):mE N p costs 0 a (N.from_ (N.to a)) ((N.from_ (N.to a)).map λb=>N.turn a b):=by
 refine⟨by simp,λb hb=>((ab.mem_from hok).1 hb).1,λx hx=>?_,λi b x hi hx=>?_,λb hy=>?_,aE _ _⟩
 .obtain⟨b,-,rfl⟩:=List.mem_map.1 hx;have:=ab.turn_bd hok a b;unfold an at *;omega
 .rw[List.getElem?_map,hi]at hx;obtain rfl:=Option.some.inj hx;unfold ab.prc;rw[if_pos rfl]
 .unfold ab.prc at hy;rw[if_pos rfl]at hy;exact ma hok hy
theorem wU (hj:j≠0) (h:a ∉ N.ins p j (ap p j (N.to a))\/N.outs p j (ap p j (N.to a)) = []):mE N p costs j a [] []:=by
 refine⟨rfl,by simp,by simp,by simp,λb hy=>?_,Nat.zero_le _⟩;unfold ab.prc at hy;rw[if_neg hj]at hy
 split at hy
 .rename_i hh;exfalso;rcases h with h | h
  .exact h (ab.mem_ins.2 ⟨hh.1,hh.2.1⟩)
  .have:=ab.mem_outs.2 ⟨hh.2.2.1,hh.2.2.2⟩;rw[h]at this;cases this
 .exact absurd hy (Int.lt_irrefl _)
theorem ve (hok:N.Ok) (hp:aB N.nv p) (hco:bG N p costs) (ha:a<N.na){l c:Nat}(hl0:l≠0) (hll:l<=p.length) (hc:ap p l (N.to a)=c) (hin:a∈N.ins p l c) :
  mE N p costs l a (N.outs p l c) ((costs.drop (N.start p l c+(N.ins p l c).idxOf a*(N.outs p l c).length)).take (N.outs p l c).length):=by
 have hto:=(ab.to_lt hok ha).1;have hcm:c<aq p l:=by rw[<-hc];exact cC hp U hll hto
 have hse:=ab.start_end (N:=N) (p:=p) (k:=l) U hll hcm;have hidx:=List.idxOf_lt_length_of_mem hin;have hmul:((N.ins p l c).idxOf a+1)*(N.outs p l c).length<=(N.ins p l c).length*(N.outs p l c).length:=Nat.mul_le_mul_right _ hidx;rw[Nat.succ_mul]at hmul;unfold ab.sz at hse;have hlen:=hco.1;have get:∀{i:Nat},i<(N.outs p l c).length->((costs.drop (N.start p l c+(N.ins p l c).idxOf a*(N.outs p l c).length)).take (N.outs p l c).length)[i]? = ξ (at_ costs (N.start p l c+((N.ins p l c).idxOf a*(N.outs p l c).length+i))):=fun {i} hi=>by
  rw[List.getElem?_take,if_pos hi,List.getElem?_drop,Nat.add_assoc];unfold at_;rw[List.getElem?_eq_getElem U];rfl
 have ent:∀{i b:Nat},(N.outs p l c)[i]? = ξ b->N.ent p costs l a b=at_ costs (N.start p l c+((N.ins p l c).idxOf a*(N.outs p l c).length+i)):=fun {i b} hi=>by
  unfold ab.ent;have e:(N.outs p l c).idxOf b=i:=fE (aX _ _) (aP (List.mem_of_getElem? hi)) hi;rw[hc,e]
 refine⟨by rw[List.length_take,List.length_drop];omega,λb hb=>(ab.mem_outs.1 hb).1,λx hx=>?_,λi b x hi hx=>?_,λb hy=>?_,aE _ _⟩
 .obtain⟨i,hi⟩:=List.getElem?_of_mem hx;have hil:i<(N.outs p l c).length:=by
   have:=(List.getElem?_eq_some_iff.1 hi).1;rw[List.length_take]at this;omega
  rw[get hil]at hi;obtain rfl:=Option.some.inj hi;exact(hco.2 l c U hll hcm _ i a _ (aP hin) (List.getElem?_eq_getElem hil)).bd
 .rw[get (List.getElem?_eq_some_iff.1 hi).1]at hx;have hx':=Option.some.inj hx;obtain⟨o1,o2⟩:=ab.mem_outs.1 (List.mem_of_getElem? hi);unfold ab.prc;rw[if_neg hl0,if_pos ⟨ha,by rw[hc];exact(ab.mem_ins.1 hin).2,o1,by rw[hc];exact o2⟩,ent hi,hx']
 .unfold ab.prc at hy;rw[if_neg hl0]at hy
  split at hy
  .rename_i hh;exact ab.mem_outs.2 ⟨hh.2.2.1,by rw[<-hc];exact hh.2.2.2⟩
  .exact absurd hy (Int.lt_irrefl _)
end
namespace Eva
structure PA (h0:AH) (N:ab) (p:List (List Int)) (g o C q mp bf dn hp:Nat) (cA:Option Addr) (cK:Nat) (rd lp:Int) (D:Nat->Prop) (h:AH):Prop where
 nw:Nw h0 h
 blk:Bk h q [μ (ξ ⟨g,0,ν⟩),μ (ξ ⟨o,0,ν⟩),ω (ξ ⟨C,0,ν⟩) (N.size p) (cx (N.size p)),.slice cA p.length cK,.map (ξ mp),μ (ξ ⟨hp,0,ν⟩),ω (ξ ⟨bf,0,ν⟩) N.na (cx N.na),ω (ξ ⟨dn,0,ν⟩) N.na (cx N.na),ψ η rd,ψ η lp] 135
 cells:Sa bh D h cA p.length cK p
 map_:∃f,dP Hh h mp f/\∀l c v,f (l,c)=ξ v->Cg N p D h l c v
 dlo:∀b,D b->h0.next<=b/\b<h.next/\b≠q/\b≠mp/\b≠bf/\b≠dn
 pos:h0.next<=q/\h0.next<=mp/\h0.next<=bf/\q≠mp/\q≠bf/\mp≠bf/\q<h.next/\mp<h.next/\bf<h.next/\h0.next<=dn/\dn<h.next/\dn≠q/\dn≠mp/\dn≠bf
section
variable {h h' h0:AH}{Q:Value->AH->Prop}{Fa F Fo:Nat->Prop}{N:ab}{p:List (List Int)}{g o C q mp bf dn hp:Nat}{cA:Option Addr}{cK:Nat}{rd lp:Int}{D:Nat->Prop}{a l:Nat}{costs:List Int}
theorem PA.off {S:Nat->Prop}(B:PA h0 N p g o C q mp bf dn hp cA cK rd lp D h) (m:Mt S h h') (hS:∀b,S b->h0.next<=b/\b≠q/\b≠mp/\¬D b):PA h0 N p g o C q mp bf dn hp cA cK rd lp D h':=by
 obtain⟨p1,p2,p3,p4,p5,p6,p7,p8,p9,p10,p11,p12⟩:=B.pos;have z:=m.next;have nD:∀{b},D b->¬S b:=λhd hs=>(hS _ hs).2.2.2 hd;obtain⟨f,f1,f2⟩:=B.map_;refine⟨m.is_nw B.nw λb hb=>(hS b hb).1,m.bk p7 (λhs=>(hS _ hs).2.1 rfl) B.blk,B.cells.off m λb hb=>nD hb,⟨f,f1.keep (m.get _ p8 (λhs=>(hS _ hs).2.2.1 rfl)),λl c v hv=>?_⟩,λb hb=>by have:=B.dlo b hb;omega,U⟩;obtain⟨A,K,B',L,e,s1,s2⟩:=f2 l c v hv;exact⟨A,K,B',L,e,s1.off m λb hb=>nD hb,s2.off m λb hb=>nD hb⟩
theorem PA.next (B:PA h0 N p g o C q mp bf dn hp cA cK rd lp D h) (a:Nw h h'):PA h0 N p g o C q mp bf dn hp cA cK rd lp D h':=B.off (S:=λ_=>False) (Mt.of a) (λb hb=>hb.elim)
theorem nE {k v c:Nat}(B:PA h0 N p g o C q mp bf dn hp cA cK rd lp D h) (hpo:aB N.nv p) (hk:1<=k) (hkl:k<=p.length) (hv:v<N.nv) (hc:ap p k v=c) (hK:Q (.tuple #[ψ η (c:Int),.bool true]) h) :
  WC Tryz.prog 167 [μ (ξ ⟨q,0,ν⟩),ψ η k,ψ η v] h Q:=by
 have hp6:=hpo.few;have hnv:=hpo.nv_;have wl:IntKind.i64.wrap ((k:Int) - 1)=((k - 1:Nat):Int):=by rw[Int.natCast_sub hk];exact af U U
 obtain⟨b3,o3,A3,n3,K3,row,hcA,-,-,hrow,r0,srow⟩:=B.cells.row (k:=k - 1) U;obtain⟨hrl,hrx⟩:=cF hpo hrow;have hn3:n3=N.nv:=by rw[<-srow.len];exact hrl
 subst hn3;obtain⟨b4,o4,x9,hA3,-,-,hx9,r1⟩:=srow.int (k:=v) hv;obtain⟨x9',hx9',x90,-⟩:=hrx v hv;rw[hx9]at hx9';obtain rfl:=Option.some.inj hx9';obtain⟨c',rfl⟩:=Int.eq_ofNat_of_zero_le x90;have hc':ap p k v=c':=by rw[bS hrow hx9];simp
 obtain rfl:c' = c:=hc'.symm.trans hc;exact iH ⟨λh=>absurd h U,λ_=>⟨q,0,rfl,_,_,_,aa B.blk rfl,λh=>absurd h U,λ_=>⟨λh=>absurd h U,λ_=>⟨_,_,_,aa B.blk rfl,_,wl,k - 1,rfl,b3,o3,hcA,U,_,_,_,r0,λh=>absurd h U,λ_=>⟨_,_,_,aa B.blk rfl,_,wl,k - 1,rfl,b3,o3,hcA,U,_,_,_,r0,v,rfl,b4,o4,hA3,hv,_,r1,hK⟩⟩⟩⟩⟩
theorem FO (B:PA h0 N p g o C q mp bf dn hp cA cK rd lp D h) (G:eA h0 Fa F g N) (O:eL h0 Fo o N p) (bc:Bk h0 C (costs.map (Value.int .i64)) 2) (hC:C<h0.next) (hco:bG N p costs) (hsz:N.size p<1000000) (ha:a<N.na) (hll0:l<=p.length)
  (hK:∀(A4:Option Addr) (K4:Nat) (A5:Option Addr) (K5:Nat) (ol:List Nat) (pr:List Int) (D':Nat->Prop) (h':AH),mE N p costs l a ol pr->PA h0 N p g o C q mp bf dn hp cA cK rd lp D' h'->Sa cI (λb=>b<h0.next\/h.next<=b\/D b) h' A4 ol.length K4 (ints ol)->Sa cI (λb=>b<h0.next\/h.next<=b\/D b) h' A5 ol.length K5 pr->Mt (λb=>b=mp) h h'->(∀b,D b->D' b)->(∀b,D' b->D b\/h.next<=b)->
   Q (.tuple #[ω A4 ol.length K4,ω A5 ol.length K5]) h') :
  WC Tryz.prog 170 [μ (ξ ⟨q,0,ν⟩),ψ η l,ψ η a] h Q:=by
 have hok:=G.ok;have hpo:=O.hp;have hna:=G.few.2;have hto:=(ab.to_lt hok ha).1;have hlen:=hco.1;obtain⟨P1,P2,P3,P4,P5,P6,P7,P8,P9,P10,P11,P12⟩:=B.pos;have hp6:=hpo.few;refine jT ⟨q,0,rfl,_,aa B.blk rfl,zU (G.nw B.nw) ha ⟨_,rfl,λhl0=>?_,λhl0=>?_⟩⟩
 .have hl0':l=0:=U;subst hl0';obtain⟨bs,hbs⟩:∃bs,N.from_ (N.to a)=bs:=⟨_,rfl⟩;refine⟨_,aa B.blk rfl,BM (G.nw B.nw) hto λA1 K1 h2 s2 k2=>⟨_,_,_,rfl,?_⟩⟩;have hR:=wT (p:=p) (costs:=costs) (a:=a) hok;have hbn:bs.length<=1000:=by rw[<-hbs];exact Nat.le_trans (aE _ _) hna
  rw[hbs]at s2 hR⊢;obtain⟨ys,hys⟩:∃ys,(bs.map λb=>N.turn a b)=ys:=⟨_,rfl⟩;have hyl:ys.length=bs.length:=by rw[<-hys];simp
  have z2':=k2.next;refine⟨U,λh3 e3=>?_⟩;obtain⟨k3,g3,z3⟩:=aj e3;rw[a9]at g3;refine⟨λm x h4=>∃i:Nat,x=i/\i<=bs.length/\m=bs.length - i/\Bk h4 h2.next ((ys.take i ++ List.replicate (ys.length - i) 0).map (Value.int .i64)) 2/\Nw h2 h4/\h2.next<h4.next,bs.length,⟨0,rfl,Nat.zero_le _,rfl,by simpa[hyl]using g3,k3,U⟩,?_⟩;rintro m x h4 ⟨i,rfl,hi,rfl,b4,k4,hlt4⟩;have k04:=k2.trans k4;refine⟨λhlt=>?_,λhge=>?_⟩
  .have hil:i<bs.length:=U;obtain⟨b2,o2,x5,hA1,-,-,hx5,r0⟩:=(s2.nw k4).int (k:=i) hil;obtain⟨b,hb⟩:∃b,bs[i]? = ξ b:=⟨_,List.getElem?_eq_getElem U⟩;have hxb:x5=(b:Int):=by simp[ints,hb]at hx5;exact hx5.symm
   subst hxb;have hbn':=hR.lt b (List.mem_of_getElem? hb);have hy:ys[i]? = ξ (N.turn a b):=by rw[<-hys,List.getElem?_map,hb];rfl
   refine⟨i,rfl,b2,o2,hA1,hil,_,r0,_,aa (B.next k04).blk rfl,BN (G.nw (B.nw.trans k04)) ha hbn' λh5 k5=>⟨_,rfl,hil,?_⟩⟩;have b5:=k5.bk hlt4 b4;have z5:=k5.next;have z4:=k4.next;obtain⟨h6,s6,b6,z6,o6⟩:=cP b5 (k:=i) (by rw[List.length_append,List.length_take,List.length_replicate];omega) (N.turn a b);rw[pB (xs:=[]) hy]at b6;exact⟨h6,s6,_,af U U,bs.length - (i+1),U,i+1,U,hil,rfl,b6,⟨U,λb hb=>(o6 b U).trans ((k5.get b U).trans (k4.get b hb))⟩,U⟩
  .obtain rfl:i=bs.length:=U;rw[<-hyl,Nat.sub_self,List.take_length,List.replicate_zero,List.append_nil]at b4;have:=hK A1 K1 (ξ ⟨h2.next,0,ν⟩) (cx bs.length) bs ys D h4 (by rw[<-hys];exact hR) (B.next k04) ((s2.nw k4).mono λb hb _=>.inr (.inl hb)) (Sa.of_ints b4 hyl (.inr (.inl z2')) hlt4) (Mt.of k04) (λb hb=>hb) (λb hb=>.inl hb);exact this
 .have hl1:1<=l:=U;have hll:l<=p.length:=hll0;obtain⟨c,hc⟩:∃c,ap p l (N.to a)=c:=⟨_,rfl⟩;have hcm:c<aq p l:=by rw[<-hc];exact cC hpo hl1 hll hto
  obtain⟨f,f1,f2⟩:=B.map_;obtain⟨ig,hig,hzg⟩:=Ex;have hlook:=f1.look (e:=113) DR hig hzg (by kernel_rfl) (l,c) true;have nil:∀(D':Nat->Prop) (h':AH),(a ∉ N.ins p l c\/N.outs p l c = [])->PA h0 N p g o C q mp bf dn hp cA cK rd lp D' h'->Mt (λb=>b=mp) h h'->(∀b,D b->D' b)->(∀b,D' b->D b\/h.next<=b)->Q (.tuple #[ω ν 0 0,ω ν 0 0]) h':=λD' h' hn hq hm hd1 hd2=>
   hK ν 0 ν 0 [] [] D' h' (wU U (by rw[hc];exact hn)) hq ⟨rfl,.inl ⟨rfl,rfl,rfl⟩,λh=>absurd h (Nat.lt_irrefl _)⟩ ⟨rfl,.inl ⟨rfl,rfl,rfl⟩,λh=>absurd h (Nat.lt_irrefl _)⟩ hm hd1 hd2
  refine nE B hpo hl1 hll hto hc ⟨_,_,rfl,λ_=>⟨_,aa B.blk rfl,?_⟩,λh=>Bool.noConfusion h⟩;obtain⟨ni,hni⟩:∃ni,(N.ins p l c).length=ni:=⟨_,rfl⟩;obtain⟨no,hno⟩:∃no,(N.outs p l c).length=no:=⟨_,rfl⟩;have hni2:ni<=1000:=by rw[<-hni];exact Nat.le_trans (aE _ _) hna
  have hno2:no<=1000:=by rw[<-hno];exact Nat.le_trans (aE _ _) hna
  have hse:=ab.start_end (N:=N) (p:=p) (k:=l) hl1 hll hcm;unfold ab.sz at hse;rw[hni,hno]at hse;have main:∀(h9:AH) (D':Nat->Prop) (A6 A7:Option Addr) (K6 K7:Nat),PA h0 N p g o C q mp bf dn hp cA cK rd lp D' h9->Mt (λb=>b=mp) h h9->(∀b,D b->D' b)->(∀b,D' b->D b\/h.next<=b)->h.next<h9.next->Bk h9 h.next [ω A6 ni K6,ω A7 no K7] 113->Sa cI D' h9 A7 no K7 (ints (N.outs p l c))->∀h10,a∈N.ins p l c->N.outs p l c≠[]->Nw h9 h10->
    ∃(A:Option Addr) (n:Nat) (K:Nat),ldC h10 h.next 1=ξ (ω A n K)/\∃x12:Int,IntKind.i64.wrap (((N.start p l c+(N.ins p l c).idxOf a*no:Nat):Int)+(n:Int))=x12/\∃(A8:Option Addr) (n8:Nat) (K8:Nat),ldC h10 q (0+2)=ξ (ω A8 n8 K8)/\(((n8:Int):Int)<x12->Q (.tuple #[ω ν 0 0,ω ν 0 0]) h10)/\(¬(((n8:Int):Int)<x12)->∃(A9:Option Addr) (n9:Nat) (K9:Nat),ldC h10 h.next 1=ξ (ω A9 n9 K9)/\∃(A10:Option Addr) (n10:Nat) (K10:Nat),ldC h10 q (0+2)=ξ (ω A10 n10 K10)/\∃(A11:Option Addr) (n11:Nat) (K11:Nat),ldC h10 h.next 1=ξ (ω A11 n11 K11)/\∃x13:Int,IntKind.i64.wrap (((N.start p l c+(N.ins p l c).idxOf a*no:Nat):Int)+(n11:Int))=x13/\∃k4:Nat,((N.start p l c+(N.ins p l c).idxOf a*no:Nat):Int)=(k4:Int)/\∃k5:Nat,x13=(k5:Int)/\∃(A12:Option Addr) (n12 K12:Nat),aG Tryz.prog 2 A10 n10 K10 (ξ k4) (ξ k5) ν=ξ (ω A12 n12 K12)/\aS (ω A11 n11 K11)/\aS (ω A10 n10 K10)/\Q (.tuple #[ω A9 n9 K9,ω A12 n12 K12]) h10):=by
   intro h9 D' A6 A7 K6 K7 B9 m9 hd1 hd2 hlt9 gb so h10 hin hne k10;have hidx:=List.idxOf_lt_length_of_mem hin;have hmul:((N.ins p l c).idxOf a+1)*no<=ni*no:=Nat.mul_le_mul_right _ (by rw[<-hni];exact hidx);rw[Nat.succ_mul]at hmul;have hpos:0<no:=by rw[<-hno];cases hx:N.outs p l c with | nil=>exact absurd hx hne | cons x l=>simp
   obtain⟨lo,hlo⟩:∃lo,N.start p l c+(N.ins p l c).idxOf a*no=lo:=⟨_,rfl⟩;rw[hlo];have wlo:IntKind.i64.wrap ((lo:Int)+(no:Int))=((lo+no:Nat):Int):=by rw[Int.natCast_add];exact af U U
   have B10:=B9.next k10;have gb10:=k10.bk hlt9 gb;have hsl:=sZ (P:=Tryz.prog) (e:=2) (C:=C) (n:=N.size p) (lo:=lo) (hi:=lo+no) zG U U (.inl U);rw[Nat.add_sub_cancel_left]at hsl;refine⟨_,_,_,aa gb10 rfl,_,wlo,_,_,_,aa B10.blk rfl,λh=>absurd h U,λ_=>⟨_,_,_,aa gb10 rfl,_,_,_,aa B10.blk rfl,_,_,_,aa gb10 rfl,_,wlo,lo,rfl,lo+no,rfl,_,_,_,hsl,so.eqok,rfl,?_⟩⟩;have hR:=ve hok hpo hco ha U hll hc hin;rw[hno,hlo]at hR;have hE:∀b,D' b->(b<h0.next\/h.next<=b\/D b):=λb hb=>(hd2 b hb).elim (λh=>.inr (.inr h)) (λh=>.inr (.inl h));have m10:=m9.nw k10;have:=hK A7 K7 (ξ ⟨C,lo,ν⟩) (cx (N.size p - lo)) (N.outs p l c) _ D' h10 hR B10 (by rw[hno];exact(so.nw k10).mono λb hb _=>hE b hb) (by rw[hno];exact rp (B10.nw.bk hC bc) (by have:=B10.nw.next;omega) (.inl hC) U _) m10 hd1 hd2;rw[hno]at this;exact this
  cases hf:f (l,c) with
  | some v=>
   obtain⟨A6,K6,A7,K7,rfl,s6,s7⟩:=f2 l c v hf;rw[hni]at s6;rw[hno]at s7;rw[hf,hni,hno]at hlook;refine⟨_,_,_,_,_,_,_,hlook,λ_ h7 e7=>?_,λh=>Bool.noConfusion h⟩;obtain⟨h8,s8,k8,g8,z8⟩:=aC (vs:=[ω A6 ni K6,ω A7 no K7]) e7 rfl (dH rfl rfl);have B8:=B.next k8;refine⟨h8,s8,_,_,_,aa g8 rfl,iM a (s6.nw k8) (aX _ _) U ⟨_,rfl,_,aa B8.blk rfl,DS (O.nw B8.nw) hl1 hll hcm (λh10 hn k10=>⟨_,rfl,λ_=>nil D h10 hn (B8.next k10) (Mt.of (k8.trans k10)) (λb hb=>hb) (λb hb=>.inl hb),λ_=>⟨λ_=>nil D h10 hn (B8.next k10) (Mt.of (k8.trans k10)) (λb hb=>hb) (λb hb=>.inl hb),λh=>absurd (show(-1:Int)<0 by omega) h⟩⟩) (λh10 hin hne k10=>⟨_,rfl,λh=>absurd h (by have:=dk.2 hin;omega),λ_=>⟨λh=>absurd h U,λ_=>?_⟩⟩)⟩⟩;have:=main h8 D A6 A7 K6 K7 B8 (Mt.of k8) (λb hb=>hb) (λb hb=>.inl hb) U g8 (s7.nw k8) h10 hin hne k10;rw[hno];exact this
  | none=>
   rw[hf]at hlook;refine⟨ν,0,0,ν,0,0,_,hlook,λh=>Bool.noConfusion h,λ_ h11 e11=>?_⟩;obtain⟨h12,s12,k12,g12,z12⟩:=aC (vs:=[ω ν 0 0,ω ν 0 0]) e11 rfl (dH rfl rfl);have B12:=B.next k12;refine⟨h12,s12,_,aa B12.blk rfl,uI (O.nw B12.nw) hl1 hll hcm λA6 K6 A7 K7 h13 s6 s7 k13=>⟨_,_,_,_,_,_,rfl,?_⟩⟩;rw[hni]at s6⊢;rw[hno]at s7⊢;have z13:=k13.next;obtain⟨h14,s14,b14,z14,o14⟩:=bL (vs:=[ω A6 ni K6,ω A7 no K7]) (k13.bk U g12) rfl (dH rfl rfl);have k14:Nw h h14:=⟨U,λb hb=>(o14 b U).trans ((k13.get b U).trans (k12.get b hb))⟩;have B14:=B.next k14;obtain⟨h15,y1,y2,y3,y4⟩:=(f1.keep (h':=h14) (k14.get _ P8)).put (P:=Tryz.prog) (e:=113) DR (l,c) (.agg #[ω A6 ni K6,ω A7 no K7]);have m15:Mt (λb=>b=mp) h14 h15:=⟨U,λb _ hb=>y4 b hb⟩;have s6':Sa cI (λb=>h12.next<=b/\b<h13.next) h15 A6 ni K6 (ints (N.ins p l c)):=((s6.mono λb hb hlt=>⟨hb,hlt⟩).keep (h':=h14) (λb hb _=>o14 b U) U).off m15 λb hb e=>U;have s7':Sa cI (λb=>h12.next<=b/\b<h13.next) h15 A7 no K7 (ints (N.outs p l c)):=((s7.mono λb hb hlt=>⟨hb,hlt⟩).keep (h':=h14) (λb hb _=>o14 b U) U).off m15 λb hb e=>U;have B15:PA h0 N p g o C q mp bf dn hp cA cK rd lp (λb=>D b\/(h12.next<=b/\b<h13.next)) h15:=by
    refine⟨m15.is_nw B14.nw λb hb=>U,m15.bk U P4 B14.blk,(B14.cells.off m15 λb hb e=>(B.dlo b hb).2.2.2.1 e).mono λb hb _=>.inl hb,⟨_,y2,λl' c' v hv=>?_⟩,λb hb=>?_,U⟩
    .by_cases e:(l',c')=(l,c)
     .rw[if_pos e]at hv;obtain rfl:=Option.some.inj hv;injection e with e1 e2;subst e1 e2;exact⟨A6,K6,A7,K7,by rw[hni,hno],by rw[hni];exact s6'.mono λb hb _=>.inr hb,by rw[hno];exact s7'.mono λb hb _=>.inr hb⟩
     .rw[if_neg e]at hv;obtain⟨A,K,A',L,e',x1,x2⟩:=f2 l' c' v hv;exact⟨A,K,A',L,e',(((x1.nw k14).off m15 λb hb e=>(B.dlo b hb).2.2.2.1 e)).mono λb hb _=>.inl hb,(((x2.nw k14).off m15 λb hb e=>(B.dlo b hb).2.2.2.1 e)).mono λb hb _=>.inl hb⟩
    .rcases hb with hb | hb
     .have:=B.dlo b hb;omega
     .omega
   have b15:=m15.bk U U b14;have m015:Mt (λb=>b=mp) h h15:=(Mt.of k14).then m15;have hd1:∀b,D b->(D b\/(h12.next<=b/\b<h13.next)):=λb hb=>.inl hb;have hd2:∀b,(D b\/(h12.next<=b/\b<h13.next))->D b\/h.next<=b:=λb hb=>hb.imp id λh=>U;refine⟨h14,s14,_,aa B14.blk rfl,_,_,_,_,_,_,bX b14 (by simp),h15,y1,_,_,_,aa b15 rfl,iM a s6' (aX _ _) U ⟨_,rfl,_,aa B15.blk rfl,DS (O.nw B15.nw) hl1 hll hcm (λh10 hn k10=>⟨_,rfl,λ_=>nil _ h10 hn (B15.next k10) (m015.nw k10) hd1 hd2,λ_=>⟨λ_=>nil _ h10 hn (B15.next k10) (m015.nw k10) hd1 hd2,λh=>absurd (show(-1:Int)<0 by omega) h⟩⟩) (λh10 hin hne k10=>⟨_,rfl,λh=>absurd h (by have:=dk.2 hin;omega),λ_=>⟨λh=>absurd h U,λ_=>?_⟩⟩)⟩⟩;have:=main h15 _ A6 A7 K6 K7 B15 m015 hd1 hd2 U b15 (s7'.mono λb hb _=>.inr hb) h10 hin hne k10;rw[hno];exact this
end
end Eva
end
section
open Go Go.RowKit
namespace Eva
def jn (par:Nat->Nat) (n:Nat):List Int:=(List.range n).map λb=>((par b:Nat):Int)
def mF (done:Nat->Option Nat) (n:Nat):List Bool:=(List.range n).map λa=>(done a).isSome
structure RA (h0:AH) (q mp bf DN hp n:Nat) (D:Nat->Prop) (done w:Nat->Option Nat) (par:Nat->Nat) (h:AH):Prop where
 dn:Bk h DN ((mF done n).map Value.bool) 4
 bf_:Bk h bf ((jn par n).map (Value.int .i64)) 3
 heap:∃S,bi h S hp n w/\∀b,S b->h0.next<=b/\b<h.next/\b≠q/\b≠mp/\b≠bf/\b≠DN/\¬D b
 pos:h0.next<=DN/\DN<h.next/\DN≠q/\DN≠mp/\DN≠bf/\bf<h.next/\¬D DN
section
variable {h h' h0:AH}{Q:Value->AH->Prop}{Fa F Fo:Nat->Prop}{N:ab}{p:List (List Int)}{g o C s t q mp bf DN hp n:Nat}{cA:Option Addr}{cK:Nat}{D D':Nat->Prop}{costs:List Int}{done w:Nat->Option Nat}{par:Nat->Nat}
theorem RA.next (R:RA h0 q mp bf DN hp n D done w par h) (a:Nw h h'):RA h0 q mp bf DN hp n D done w par h':=by
 obtain⟨p1,p2,p3,p4,p5,p6,p7⟩:=R.pos;obtain⟨S,H,hS⟩:=R.heap;have z:=a.next;exact⟨a.bk p2 R.dn,a.bk p6 R.bf_,⟨S,H.nw a,λb hb=>by have:=hS b hb;exact⟨this.1,U,this.2.2⟩⟩,p1,U,p3,p4,p5,U,p7⟩
theorem ka (dn:Nat->Option Nat) (k:Nat) (l:List (Nat×Nat)) (x:Nat×Nat) (st:(Nat->Option Nat)×(Nat->Nat)):bJ dn k (l ++ [x]) st=ch dn k (bJ dn k l st) x:=by
 unfold bJ;rw[List.foldl_append];rfl
theorem HT (B:QA h0 N p g o C s t q mp bf cA cK D h) (hbf:Bk h bf ((List.replicate N.na (0:Int)).map (Value.int .i64)) 3) (G:eA h0 Fa F g N) (O:eL h0 Fo o N p) (bc:Bk h0 C (costs.map (Value.int .i64)) 2) (hC:C<h0.next) (hco:bG N p costs) (hsz:N.size p<1000000) (hs:s<N.na) (ht:t<N.na)
  (hK:∀(d:Nat) (A:Option Addr) (n K:Nat) (hs:List bw) (h':AH),Sa aN (λb=>h.next<=b) h' A n K hs->Nw h0 h'->(N.w s<an->ic aH (N.le p costs s t) s t d/\(d<aH->cY (N.le p costs s t) (λa=>N.lev p s t (N.to a)) s t d hs/\hs.length<=N.na+1/\(s=t->hs = [])))->(an<=N.w s->d=aH)->(d=aH->hs = [])->d<=aH->Q (.tuple #[ψ η d,ω A n K]) h') :
  WC Tryz.prog 33 [μ (ξ ⟨q,0,ν⟩)] h Q:=by
 have hok:=G.ok;have hp:=O.hp;have hna:=G.few.2;obtain⟨P1,P2,P3,P4,P5,P6,P7,P8,P9⟩:=B.pos;have none_:∀h',Nw h0 h'->(N.w s<an->ic aH (N.le p costs s t) s t aH)->Q (.tuple #[ψ η 1152921504606846976,ω ν 0 0]) h':=λh' k hL=>
  hK aH ν 0 0 [] h' ⟨rfl,.inl ⟨rfl,rfl,rfl⟩,λh=>absurd h (Nat.lt_irrefl _)⟩ k (λhw=>⟨hL hw,λh=>absurd h (Nat.lt_irrefl _)⟩) (λ_=>rfl) (λ_=>rfl) (Nat.le_refl _)
 refine mR ⟨q,0,rfl,_,aa B.blk rfl,_,aa B.blk rfl,jf (G.nw B.nw) hs ⟨_,rfl,λhge=>none_ h B.nw (λhw=>absurd hw (Int.not_lt.2 hge)),λhlt=>?_⟩⟩;have hws:N.w s<an:=Int.not_le.1 hlt;refine⟨_,_,_,aa B.blk rfl,U,λh2 e2=>?_⟩;obtain⟨k2,g2,z2⟩:=aj e2;rw[a9]at g2;refine⟨_,_,_,aa (B.next k2).blk rfl,Fk N.na U λh3 S3 hh H3 k3 hS3=>⟨_,rfl,s,aa (B.next (k2.trans k3)).blk rfl,zw H3 hs (Int.le_refl _) U λh4 S4 H4 m4 g4=>⟨_,rfl,?_⟩⟩⟩;have z3:=k3.next;have z4:=m4.next;have S3lt:∀b,S3 b->b<h3.next:=λb hb=>by
  obtain⟨row,costs',A',K',Bc,Bs,seats,-,-,-,q4⟩:=H3;exact q4 b hb
 have S4lt:∀b,S4 b->h2.next<=b/\b<h4.next:=λb hb=>(g4 b hb).elim (λh=>by have:=hS3 b h;have:=S3lt b h;omega) (λh=>U);have B4:QA h0 N p g o C s t q mp bf cA cK D h4:=(B.next (k2.trans k3)).off m4 λb hb=>⟨by have:=hS3 b hb;omega,by have:=hS3 b hb;omega,by have:=hS3 b hb;omega,λhd=>by have:=(B.dlo b hd).2.1;have:=hS3 b hb;omega⟩;have R4:RA h0 q mp bf h.next hh N.na D (λ_=>ν) (λb=>if b=s then ξ 0 else ν) (λ_=>0) h4:=by
  refine⟨?_,?_,⟨S4,H4,λb hb=>?_⟩,U,U,U,U,U,U,λhd=>by have:=(B.dlo _ hd).2.1;omega⟩
  .have:=m4.bk U (λhs=>by have:=hS3 _ hs;omega) (k3.bk U g2);have e:mF (λ_=>ν) N.na=List.replicate N.na false:=by
    unfold mF;show(List.range N.na).map (λ_=>false)=_;rw[List.map_const',List.length_range]
   rw[e,List.map_replicate];exact this
  .have:=m4.bk U (λhs=>by have:=hS3 _ hs;omega) ((k2.trans k3).bk P9 hbf);have e:jn (λ_=>0) N.na=List.replicate N.na 0:=by
    unfold jn;show(List.range N.na).map (λ_=>(0:Int))=_;rw[List.map_const',List.length_range]
   rw[e];exact this
  .have:=S4lt b hb;exact⟨U,U,U,U,U,U,λhd=>by have:=(B.dlo b hd).2.1;omega⟩
 refine⟨λm h5=>∃(done w:Nat->Option Nat) (par rank:Nat->Nat) (D:Nat->Prop),QA h0 N p g o C s t q mp bf cA cK D h5/\RA h0 q mp bf h.next hh N.na D done w par h5/\lV aH (N.le p costs s t) s done (gd aH w)/\Bp aH (N.le p costs s t) s done w par rank (dc done N.na)/\(∀b c,w b=ξ c->c<aH)/\(∀a c,done a=ξ c->a<N.na)/\done t=ν/\((done=(λ_=>ν)/\w=λb=>if b=s then ξ 0 else ν)\/done s≠ν)/\m=N.na - dc done N.na/\h.next<h5.next,N.na,⟨λ_=>ν,_,_,λ_=>0,D,B4,R4,?_,?_,λb c hb=>?_,(λa c h=>by cases h),rfl,.inl ⟨rfl,rfl⟩,?_,U⟩,?_⟩
 .rw[j7];exact lV.new (by unfold aH;omega)
 .have e:dc (λ_=>ν) N.na=0:=by simp[dc]
  rw[e];exact Bp.start rfl rfl _ _
 .by_cases e:b=s
  .simp[e]at hb;unfold aH;omega
  .simp[e]at hb
 .have e:dc (λ_=>ν) N.na=0:=by simp[dc]
  rw[e];rfl
 rintro m h5 ⟨done,w,par,rank,D5,B5,R5,hD,hPr,hwI,hdn,hdt,hst,rfl,hlt5⟩;have hfin:gd aH w=w:=by
  funext b
  unfold gd;cases hb:w b with
  | none=>rfl
  | some c=>simp[hwI b c hb]
 obtain⟨S5,H5,hS5⟩:=R5.heap;obtain⟨p51,p52,p53,p54,p55,p56,p57⟩:=R5.pos;refine Fm H5 (λhq=>?_) (λk c h6 hkN hqk hmin H6 m6 z6=>?_)
 .refine⟨_,_,_,rfl,λh=>Bool.noConfusion h,λ_=>none_ h5 B5.nw λ_=>?_⟩;have:=hD.over (λb c hb=>by rw[hq b]at hb;cases hb) t;rw[hdt]at this;exact this
 .have hcI:=hwI k c hqk;have offS:∀b,S5 b->h0.next<=b/\b≠q/\b≠mp/\¬D5 b:=λb hb=>by have:=hS5 b hb;exact⟨this.1,this.2.2.1,this.2.2.2.1,this.2.2.2.2.2.2⟩
  have B6:=B5.off m6 offS;have dn6:=m6.bk p52 (λhs=>(hS5 _ hs).2.2.2.2.2.1 rfl) R5.dn;have bf6:=m6.bk p56 (λhs=>(hS5 _ hs).2.2.2.2.1 rfl) R5.bf_;have hcn:dc done N.na<=N.na:=kZ _ _;refine⟨_,_,_,rfl,λ_=>⟨t,aa B6.blk rfl,λhe=>?_,λhne=>?_⟩,λh=>Bool.noConfusion h⟩
  .have he':k=t:=U;subst he';have hL:ic aH (N.le p costs s k) s k c:=hD.found (by rw[hfin];exact hqk) (λb c' hb=>hmin b c' (by rw[hfin]at hb;exact hb));have bf6':Bk h6 bf ((List.range N.na).map λb=>Value.int .i64 ((par b:Nat):Int)) 3:=by
    have:=bf6;unfold jn at this;rw[List.map_map]at this;exact this
   refine GW B6 G hp hs hkN bf6' hPr hdn U hqk hdt λA n K hps h7 s7 hh7 hl7 hst7 k7=>⟨_,_,_,rfl,hK c A n K hps h7 (s7.mono λb hb _=>U) (B6.nw.trans k7) (λ_=>⟨hL,λ_=>⟨hh7,by have:=kZ done N.na;omega,hst7⟩⟩) (λh=>absurd hws (Int.not_lt.2 h)) (λh=>U) U⟩
  .have hkt:k≠t:=λe=>hne (by rw[e]);obtain⟨h8,s8,b8,z8,o8⟩:=aD (v:=.bool true) dn6 (o:=0+k) (by unfold mF;simpa using hkN) rfl;have hdk:done k=none:=by
    have:=hD.wait k c (by rw[hfin];exact hqk);exact this.2.2
   have dn8:Bk h8 h.next ((mF (upd done k (ξ c)) N.na).map Value.bool) 4:=by
    rw[Nat.zero_add,<-List.map_set]at b8;unfold mF at b8⊢;rw[yc (c:=c) hkN]at b8;exact b8
   have m68:Mt (λb=>b=h.next) h6 h8:=⟨U,λb _ hb=>o8 b hb⟩;have B8:=B6.off m68 λb hb=>by subst hb;exact⟨U,p53,p54,p57⟩
   have R8:RA h0 q mp bf h.next hh N.na D5 (upd done k (ξ c)) (del w k) par h8:=by
    refine⟨dn8,(o8 _ (Ne.symm p55)).trans bf6,⟨S5,H6.off m68 λb hb e=>(hS5 b hb).2.2.2.2.2.1 e,λb hb=>by have:=hS5 b hb;exact⟨this.1,U,this.2.2⟩⟩,p51,U,p53,p54,p55,U,p57⟩
   refine⟨k,rfl,hkN,h8,s8,Ch B8 G hp hs ht hkN ⟨_,rfl,GO B8 G O bc hC hco hsz hkN rfl λA4 K4 A5 K5 ol pr D' h10 hR B10 s4 s5 m10 hd1 hd2=>⟨_,_,_,_,_,_,rfl,?_⟩⟩⟩;have z10:=m10.next;have hll:=hR.len;have hlf:=hR.few;obtain⟨dn,hdnE⟩:∃dn,dn=upd done k (ξ c):=⟨_,rfl⟩;rw[<-hdnE]at dn8;have H10:bi h10 S5 hh N.na (del w k):=(H6.off m68 λb hb e=>(hS5 b hb).2.2.2.2.2.1 e).off m10 λb hb e=>(hS5 b hb).2.2.2.1 e;have dn10:=m10.bk U p54 dn8;have bf10:=m10.bk U (Ne.symm P6) R8.bf_;obtain⟨st,hst_⟩:∃st:Nat->(Nat->Option Nat)×(Nat->Nat),∀j,st j=bJ dn k (mW N c ol pr j) (del w k,par):=⟨_,λ_=>rfl⟩;have st0:st 0=(del w k,par):=hst_ 0;obtain⟨E,hE⟩:∃E:Nat->Prop,∀b,E b↔(b<h0.next\/h8.next<=b\/D5 b)/\b<h10.next:=⟨_,λ_=>Iff.rfl⟩;have s4':Sa cI E h10 A4 ol.length K4 (ints ol):=s4.mono λb hb hlt=>(hE b).2 ⟨hb,hlt⟩;have s5':Sa cI E h10 A5 ol.length K5 pr:=s5.mono λb hb hlt=>(hE b).2 ⟨hb,hlt⟩;have hS5E:∀b,S5 b->¬E b:=λb hb he=>by
    have h1:=(hE b).1 he;have h2:=hS5 b hb;rcases h1.1 with h | h | h
    .omega
    .omega
    .exact h2.2.2.2.2.2.2 h
   have hbfE:¬E bf:=λhe=>by
    have h1:=(hE bf).1 he;rcases h1.1 with h | h | h
    .omega
    .omega
    .exact(B5.dlo bf h).2.2.2.2 rfl
   have hbfD:¬D' bf:=λhe=>(B10.dlo bf he).2.2.2.2 rfl;obtain⟨J,hJ⟩:∃J:Nat->Int->AH->Prop,∀m x h',J m x h'↔∃(j:Nat) (S:Nat->Prop),x=j/\j<=ol.length/\m=ol.length - j/\h10.next<=h'.next/\QA h0 N p g o C s t q mp bf cA cK D' h'/\bi h' S hh N.na (st j).1/\(∀b,S b->S5 b\/h10.next<=b)/\Bk h' bf ((jn (st j).2 N.na).map (Value.int .i64)) 3/\Bk h' h.next ((mF dn N.na).map Value.bool) 4/\Sa cI E h' A4 ol.length K4 (ints ol)/\Sa cI E h' A5 ol.length K5 pr:=⟨_,λ_ _ _=>Iff.rfl⟩;refine⟨J,ol.length,(hJ _ _ _).2 ⟨0,S5,rfl,Nat.zero_le _,rfl,Nat.le_refl _,B10,by rw[st0];exact H10,λb hb=>.inl hb,by rw[st0];exact bf10,dn10,s4',s5'⟩,λm3 x8 h11 hj=>?_⟩;obtain⟨j,S,rfl,hj,rfl,hz11,B11,H11,hS11,bf11,dn11,t4,t5⟩:=(hJ _ _ _).1 hj;have hSE:∀b,S b->¬E b:=λb hb he=>(hS11 b hb).elim (λh=>hS5E b h he) (λh=>by have:=(hE b).1 he;omega);have hSo:∀b,S b->h0.next<=b/\b≠q/\b≠mp/\b≠bf/\b≠h.next/\¬D' b:=λb hb=>by
    rcases hS11 b hb with h | h
    .have h2:=hS5 b h;exact⟨h2.1,h2.2.2.1,h2.2.2.2.1,h2.2.2.2.2.1,h2.2.2.2.2.2.1,λhd=>(hd2 b hd).elim h2.2.2.2.2.2.2 (λh=>U)⟩
    .exact⟨U,U,U,U,U,λhd=>by have:=(B10.dlo b hd).2.1;omega⟩
   refine⟨λhlt=>?_,λhge=>?_⟩
   .obtain⟨b2,o2,x9,rfl,hF2,hb2,hx9,e9⟩:=t4.int (k:=j) U;obtain⟨b3,o3,x10,rfl,hF3,hb3,hx10,e10⟩:=t5.int (k:=j) U;obtain⟨bn,hbn,rfl⟩:∃bn:Nat,ol[j]? = ξ bn/\x9=(bn:Int):=by
     unfold ints at hx9;rw[List.getElem?_map]at hx9;cases hv:ol[j]? with
     | none=>rw[hv]at hx9;cases hx9
     | some bn=>rw[hv]at hx9;exact⟨bn,rfl,(Option.some.inj hx9).symm⟩
    have hbl:=hR.lt bn (List.mem_of_getElem? hbn);have hx:=hR.nn x10 (List.mem_of_getElem? hx10);have hw:=ab.w_bd hok bn;have hsum:=FM (c:=(c:Int)) (x:=x10) (w:=N.w bn) (by unfold an aH at *;omega) hx (by unfold an at *;omega);have fin:∀(h':AH) (S':Nat->Prop),Mt (λb=>S b\/b=bf) h11 h'->(∀b,S' b->S b\/h11.next<=b)->bi h' S' hh N.na (st (j+1)).1->Bk h' bf ((jn (st (j+1)).2 N.na).map (Value.int .i64)) 3->∃x:Int,IntKind.i64.wrap ((j:Int)+1)=x/\∃m':Nat,m' < ol.length - j/\J m' x h':=λh' S' mm hS' H' bf'=>by
     have hz:=mm.next;refine⟨((j+1:Nat):Int),by rw[Int.natCast_succ];exact af U U,ol.length - (j+1),U,(hJ _ _ _).2 ⟨j+1,S',rfl,U,rfl,U,B11.off mm λb hb=>?_,H',λb hb=>(hS' b hb).elim (hS11 b) (λh=>.inr U),bf',mm.bk U (λhs=>hs.elim (λh=>(hSo _ h).2.2.2.2.1 rfl) (λe=>p55 e)) dn11,t4.off mm λb hb hs=>hs.elim (λh=>hSE b h hb) (λe=>hbfE (e ▸ hb)),t5.off mm λb hb hs=>hs.elim (λh=>hSE b h hb) (λe=>hbfE (e ▸ hb))⟩⟩;rcases hb with hb | rfl
     .have:=hSo b hb;exact⟨this.1,this.2.1,this.2.2.1,this.2.2.2.2.2⟩
     .exact⟨P3,Ne.symm P5,Ne.symm P6,hbfD⟩
    refine⟨j,rfl,b2,o2,rfl,U,_,e9,b3,o3,rfl,U,_,e10,_,aa B11.blk rfl,jf (G.nw B11.nw) hbl ⟨_,rfl,e10,λh13 e13=>?_⟩⟩;obtain⟨k13,g13,z13⟩:=aj e13;have same:st (j+1)=st j->∃x:Int,IntKind.i64.wrap ((j:Int)+1)=x/\∃m':Nat,m' < ol.length - j/\J m' x h13:=λe=>fin h13 S (Mt.of k13) (λb hb=>.inl hb) (by rw[e];exact H11.nw k13) (by rw[e];exact k13.bk U bf11);refine HE (F:=λb=>b=h11.next) (Sa.of_ints (k:=.i64) (xs:=[(c:Int),x10,N.w bn]) g13 rfl rfl U) U ⟨_,rfl,λhlt2=>⟨bn,rfl,hbl,(dn bn).isSome,?_,λhdt=>?_,λhdf=>?_⟩,λhge2=>same ?_⟩
    .rw[aT (k13.bk U dn11),Nat.zero_add];simp[mF,hbl]
    .refine same ?_;rw[hst_,hst_,mf,vb,hbn,hx10];simp only;rw[if_pos hlt2];show bJ dn k (mW N c ol pr j ++ [_]) _=_;rw[ka,ch,if_neg (λh=>by rw[h]at hdt;exact Bool.noConfusion hdt)]
    .have hnn:dn bn=none:=by cases hd:dn bn with
      | none=>rfl
      | some y=>rw[hd]at hdf;exact Bool.noConfusion hdf
     have nx:st (j+1)=(ik (st j).1 bn (jl [(c:Int),x10,N.w bn]).toNat,if eX (st j).1 bn (jl [(c:Int),x10,N.w bn]).toNat then upd (st j).2 bn k else(st j).2):=by
      rw[hst_,hst_,mf,vb,hbn,hx10];simp only;rw[if_pos hlt2];show bJ dn k (mW N c ol pr j ++ [_]) _=_;rw[ka,ch,if_pos hnn]
     refine zw (H11.nw k13) hbl (by rw[hsum];unfold an at *;omega) (by rw[hsum];unfold an at *;omega) λh15 S15 H15 m15 g15=>⟨_,rfl,λhpt=>?_,λhpf=>?_⟩
     .have B15:=(B11.next k13).off m15 λb hb=>by have:=hSo b hb;exact⟨this.1,this.2.1,this.2.2.1,this.2.2.2.2.2⟩
      have z15:=m15.next;have bf15:=m15.bk U (λhs=>(hSo _ hs).2.2.2.1 rfl) (k13.bk U bf11);obtain⟨h16,s16,b16,z16,o16⟩:=aD (v:=ψ η (k:Int)) bf15 (o:=0+bn) (by simp[jn];omega) rfl;rw[Nat.zero_add,<-List.map_set]at b16;unfold jn at b16;rw[ym hbl]at b16;have m16:Mt (λb=>S b\/b=bf) h11 h16:=⟨U,λb hb hn=>(o16 b (λe=>hn (.inr e))).trans ((m15.get b U (λhs=>hn (.inl hs))).trans (k13.get b hb))⟩;refine⟨_,_,_,aa B15.blk rfl,bf,0,rfl,hbl,h16,s16,fin h16 S15 m16 (λb hb=>(g15 b hb).elim .inl (λh=>.inr U)) ?_ ?_⟩
      .rw[nx];refine H15.off (S':=λb=>b=bf) ⟨U,λb _ hn=>o16 b hn⟩ λb hb e=>?_;rcases g15 b hb with h | h
       .exact(hSo b h).2.2.2.1 e
       .omega
      .rw[nx,hpt];exact b16
     .refine fin h15 S15 ((Mt.of k13).trans m15 λb hb _=>.inl hb) (λb hb=>(g15 b hb).elim .inl (λh=>.inr U)) (by rw[nx];exact H15) ?_;rw[nx,hpf];exact m15.bk U (λhs=>(hSo _ hs).2.2.2.1 rfl) (k13.bk U bf11)
    .rw[hst_,hst_,mf,vb,hbn,hx10];simp only;rw[if_neg hge2];simp
   .obtain rfl:j=ol.length:=U;have hks:k=s\/done s≠none:=hst.elim (λ⟨_,e⟩=>.inl (by
     rw[e]at hqk;by_cases h:k=s
     .exact h
     .simp[h]at hqk)) .inr
    have hD':=hD.round (par:=par) hqk hcI hmin (mW N c ol pr ol.length) (λb x _ he hx _=>hR.put hok hcI he hx) (λb y hb _=>(hR.step hok hcI hb).2.2);have hP':=hPr.round hqk hdk (mW N c ol pr ol.length) (λb y hb _ _=>(hR.step hok hcI hb).2.2) hks;rw[<-hdnE,<-hst_]at hD' hP';have hcnt:=gB (c:=c) hdk N.na hkN;have hclt:=ta hdk hkN;rw[<-hcnt,<-hdnE]at hP';rw[<-hdnE]at hcnt;refine⟨N.na - dc dn N.na,U,dn,(st ol.length).1,(st ol.length).2,_,D',B11,⟨dn11,bf11,⟨S,H11,λb hb=>?_⟩,U,U,U,U,U,U,λhd=>?_⟩,hD',hP',λb y hb=>?_,λa y ha=>?_,?_,.inr ?_,rfl,U⟩
    .have:=hSo b hb;have hlt:b<h11.next:=by
      obtain⟨row,costs',A',K',Bc,Bs,seats,-,-,-,q4⟩:=H11;exact q4 b hb
     exact⟨this.1,hlt,this.2.1,this.2.2.1,this.2.2.2.1,this.2.2.2.2.1,this.2.2.2.2.2⟩
    .exact(hd2 _ hd).elim p57 (λh=>U)
    .rw[hst_]at hb;rcases dN _ _ hb with⟨h3,-⟩ | ⟨-,h4,-⟩
     .simp only[del]at h3;by_cases e:b=k
      .simp[e]at h3
      .rw[if_neg e]at h3;exact hwI b y h3
     .exact(hR.step hok hcI h4).1
    .rw[hdnE]at ha;simp only[upd]at ha;by_cases e:a=k
     .omega
     .rw[if_neg e]at ha;exact hdn a y ha
    .rw[hdnE];simp only[upd];rw[if_neg (Ne.symm hkt)];exact hdt
    .rw[hdnE];simp only[upd];rcases hks with e | e
     .rw[if_pos e.symm];intro h;cases h
     .split
      .intro h;cases h
      .exact e
end
end Eva
end
section
open Go Go.RowKit
def ab.atK (N:ab) (p:List (List Int)) (k c a:Nat):Prop:=k=1\/N.kidIn p k c a
open Classical in
noncomputable def zV (N:ab) (p:List (List Int)) (k cell t c:Nat) (ol:List Nat) (pr:List Int) (i:Nat):Option (Nat×Nat):=
 match ol[i]?,pr[i]? with
 | some b,ξ x=>if b=t then(if ck (c:Int) x<an then ξ (b,(ck (c:Int) x).toNat) else ν) else if N.win p k cell b/\ck (ck (c:Int) x) (N.w b)<an then ξ (b,(ck (ck (c:Int) x) (N.w b)).toNat) else ν
 | _,_=>ν
noncomputable def zW (N:ab) (p:List (List Int)) (k cell t c:Nat) (ol:List Nat) (pr:List Int) (j:Nat):List (Nat×Nat):=(List.range j).filterMap (zV N p k cell t c ol pr)
section
variable {N:ab}{p:List (List Int)}{costs:List Int}{k cell t c a m x:Nat}{ol:List Nat}{pr:List Int}
theorem vf (j:Nat):zW N p k cell t c ol pr (j+1)=zW N p k cell t c ol pr j ++ (zV N p k cell t c ol pr j).toList:=by
 unfold zW;rw[List.range_succ,List.filterMap_append];cases h:zV N p k cell t c ol pr j <;>simp[List.filterMap_cons,h]
theorem wV {c x:Int}(hc:0<=c/\c<=an) (hx:0<=x/\x<=an):ck c x=min (c+x) an:=by
 unfold an at *;rw[iK,cD hc.1 hc.2,cD hx.1 hx.2]
theorem FP (hok:N.Ok) (hp:aB N.nv p) (h1:1<=k) (hkl:k<=p.length) (ha:a<N.na) (h:N.inA p k cell a):N.atK p k cell a:=by
 by_cases hk:k=1
 .exact .inl hk
 .exact .inr (kR hok hp U hkl (ab.mem_ins.2 ⟨ha,h⟩))
theorem vg (h1:1<=k) (ha:N.atK p k cell a) (ht:t∈N.outs p k cell):pg N p k cell (N.ent p costs) a t=ξ x↔N.prc p costs (k - 1) a t<an/\x=(N.prc p costs (k - 1) a t).toNat:=by
 unfold pg;by_cases hk:k=1
 .subst hk;rw[if_pos rfl];unfold ab.prc;rw[if_pos rfl];exact ab.tr_some
 .have hk1:k - 1≠0:=U;have hka:=ha.resolve_left hk;have htn:=(ab.mem_outs.1 ht).1;rw[if_neg hk,ek];unfold ab.prc;rw[if_neg hk1];constructor
  .rintro⟨g1,g2,g3,g4,rfl⟩;rw[if_pos ⟨g1.1,g1.2.2,htn,(ab.mem_outs.1 g3).2⟩];exact⟨g4,rfl⟩
  .intro h
   split at h
   .rename_i hh;exact⟨hka,ht,ab.mem_outs.2 hh.2.2,h.1,h.2⟩
   .exact absurd h.1 (Int.lt_irrefl _)
theorem vi (hok:N.Ok) (hp:aB N.nv p) (h1:1<=k) (hkl:k<=p.length) (ha:N.atK p k cell a):ke N p k cell (N.ent p costs) a m=ξ x↔N.win p k cell m/\N.prc p costs (k - 1) a m<an/\N.w m<an/\x=(N.prc p costs (k - 1) a m).toNat+(N.w m).toNat:=by
 unfold ke;by_cases hk:k=1
 .subst hk;rw[if_pos rfl];unfold ab.prc;rw[if_pos rfl];by_cases hw:N.win p 1 cell m
  .rw[if_pos hw,ab.e_some];exact⟨λh=>⟨hw,h⟩,λh=>h.2⟩
  .rw[if_neg hw];exact⟨λh=>by(cases h),λh=>absurd h.1 hw⟩
 .have hk1:k - 1≠0:=U;have hka:=ha.resolve_left hk;rw[if_neg hk];unfold ab.prc;rw[if_neg hk1];constructor
  .intro h;obtain⟨g1,g2,g3,g4,g5,g6,g7,rfl⟩:=kS hok hp U hkl h;rw[if_pos ⟨g1.1,g4,g3,g5⟩];exact⟨g2,g6,g7,rfl⟩
  .rintro⟨hw,h2,h3,h4⟩
   split at h2
   .rename_i hh;rw[if_pos hh]at h4;exact ej.2 ⟨hka,ab.mem_outs.2 hh.2.2,λh=>(ab.mem_outs.1 h).2.2 hw.2,h2,h3,h4⟩
   .exact absurd h2 (Int.lt_irrefl _)
theorem CA (hok:N.Ok) (hp:aB N.nv p) (hkl:k<=p.length) (h1:1<=k) (h:ke N p k cell (N.ent p costs) a m=ξ x):N.atK p k cell m:=by
 by_cases hk:k=1
 .exact .inl hk
 .unfold ke at h;rw[if_neg hk]at h;obtain⟨g1,g2,g3,g4,g5,-⟩:=kS hok hp U hkl h;exact .inr ⟨g3,g2.2,rfl,λe=>g5.2 (by rw[<-e];exact g5.1)⟩
theorem mE.put (hR:mE N p costs (k - 1) a ol pr) (hok:N.Ok) (hp:aB N.nv p) (h1:1<=k) (hkl:k<=p.length) (ha:N.atK p k cell a) (ht:t∈N.outs p k cell) (hc:c<aH){b:Nat}(h:qn (ke N p k cell (N.ent p costs)) (pg N p k cell (N.ent p costs)) t a b=ξ x) (hx:c+x<aH) :
  (b,c+x)∈zW N p k cell t c ol pr ol.length:=by
 have fin:∀b,N.prc p costs (k - 1) a b<an->∃i,i<ol.length/\ol[i]? = ξ b/\pr[i]? = ξ (N.prc p costs (k - 1) a b)/\0<=N.prc p costs (k - 1) a b:=λb hb=>by
  obtain⟨i,hi⟩:=List.getElem?_of_mem (hR.all b hb);have hil:=(List.getElem?_eq_some_iff.1 hi).1;have hpi:pr[i]? = ξ (pr[i]'(by rw[hR.len];exact hil)):=List.getElem?_eq_getElem _;have e:=hR.here i b _ hi hpi;have n0:=hR.nn _ (List.mem_of_getElem? hpi);rw[e]at hpi n0;exact⟨i,hil,hi,hpi,n0.1⟩
 unfold zW;rw[List.mem_filterMap];unfold qn at h;by_cases hb:b=t
 .subst hb;rw[if_pos rfl]at h;obtain⟨g1,rfl⟩:=(vg h1 ha ht).1 h;obtain⟨i,i1,i2,i3,i4⟩:=fin b g1;refine⟨i,by simpa using i1,?_⟩;unfold zV;rw[i2,i3];simp only;have e:=wV (c:=(c:Int)) (x:=N.prc p costs (k - 1) a b) (by unfold an aH at *;omega) (by unfold an at *;omega);rw[if_pos trivial,e,if_pos (by unfold an aH at *;omega)]
  congr 2
  unfold an aH at *;omega
 .rw[if_neg hb]at h;obtain⟨g0,g1,g2,rfl⟩:=(vi hok hp h1 hkl ha).1 h;obtain⟨i,i1,i2,i3,i4⟩:=fin b g1;refine⟨i,by simpa using i1,?_⟩;unfold zV;rw[i2,i3];simp only;have hw:=ab.w_bd hok b;have e:=wV (c:=(c:Int)) (x:=N.prc p costs (k - 1) a b) (by unfold an aH at *;omega) (by unfold an at *;omega);have e2:=wV (c:=ck (c:Int) (N.prc p costs (k - 1) a b)) (x:=N.w b) (by rw[e];unfold an aH at *;omega) (by unfold an at *;omega);rw[if_neg hb,if_pos ⟨g0,by rw[e2,e];unfold an aH at *;omega⟩,e2,e]
  congr 2
  unfold an aH at *;omega
theorem mE.step (hR:mE N p costs (k - 1) a ol pr) (hok:N.Ok) (hp:aB N.nv p) (h1:1<=k) (hkl:k<=p.length) (ha:N.atK p k cell a) (ht:t∈N.outs p k cell) (hc:c<aH){b y:Nat}(h:(b,y)∈zW N p k cell t c ol pr ol.length) :
  y<aH/\b<N.na/\∃x,qn (ke N p k cell (N.ent p costs)) (pg N p k cell (N.ent p costs)) t a b=ξ x/\y=c+x:=by
 unfold zW at h;obtain⟨i,-,h2⟩:=List.mem_filterMap.1 h;unfold zV at h2;cases hi:ol[i]? with
 | none=>rw[hi]at h2;cases h2
 | some b'=>
  cases hj:pr[i]? with
  | none=>rw[hi,hj]at h2;cases h2
  | some z=>
   rw[hi,hj]at h2;simp only at h2;have hz:=hR.nn z (List.mem_of_getElem? hj);have hzp:=hR.here i b' z hi hj;have hbn:=hR.lt b' (List.mem_of_getElem? hi);have e:=wV (c:=(c:Int)) (x:=z) (by unfold an aH at *;omega) hz;by_cases hb:b' = t
   .rw[if_pos hb]at h2
    split at h2
    .rename_i hlt;have h3:=Option.some.inj h2;injection h3 with h4 h5;subst h4;rw[e]at hlt h5;refine⟨by unfold an aH at *;omega,hbn,z.toNat,?_,by unfold an at *;omega⟩;unfold qn;rw[if_pos hb];subst hb;exact(vg h1 ha ht).2 ⟨by rw[<-hzp];unfold an at *;omega,by rw[hzp]⟩
    .cases h2
   .rw[if_neg hb]at h2
    split at h2
    .rename_i hlt;obtain⟨g0,hlt⟩:=hlt;have hw:=ab.w_bd hok b';have e2:=wV (c:=ck (c:Int) z) (x:=N.w b') (by rw[e];unfold an aH at *;omega) (by unfold an at *;omega);have h3:=Option.some.inj h2;injection h3 with h4 h5;subst h4;rw[e2,e]at hlt h5;refine⟨by unfold an aH at *;omega,hbn,z.toNat+(N.w b').toNat,?_,by unfold an at *;omega⟩;unfold qn;rw[if_neg hb];exact(vi hok hp h1 hkl ha).2 ⟨g0,by rw[<-hzp];unfold an at *;omega,by unfold an at *;omega,by rw[hzp]⟩
    .cases h2
end
end
section
open Go Go.RowKit
namespace Eva
section
variable {h h' h0:AH}{Q:Value->AH->Prop}{Fa F Fo:Nat->Prop}{N:ab}{p:List (List Int)}{g o C q mp bf dn hp:Nat}{cA:Option Addr}{cK:Nat}{rd lp:Int}{D:Nat->Prop}{a k cell s t:Nat}{costs:List Int}{A:Option Addr}{n K:Nat}{xs:List Int}
theorem CC {b:Nat}(B:PA h0 N p g o C q mp bf dn hp cA cK rd lp D h) (G:eA h0 Fa F g N) (hpo:aB N.nv p) (hk:1<=k) (hkl:k<=p.length) (hb:b<N.na) (hK:∀y:Bool,(y=true↔N.win p k cell b)->Q (.bool y) h) :
  WC Tryz.prog 171 [μ (ξ ⟨q,0,ν⟩),ψ η k,ψ η cell,ψ η b] h Q:=by
 have G1:=G.nw B.nw;refine iI ⟨q,0,rfl,_,aa B.blk rfl,pp G1 hb ⟨_,rfl,nE B hpo hk hkl (ab.fr_lt G.ok hb).1 rfl ⟨_,_,rfl,λ_=>⟨_,aa B.blk rfl,zU G1 hb ⟨_,rfl,nE B hpo hk hkl (ab.to_lt G.ok hb).1 rfl ⟨_,_,rfl,λ_=>⟨λe1=>⟨λe2=>?_,λe2=>?_⟩,λe1=>?_⟩,λh=>Bool.noConfusion h⟩⟩⟩,λh=>Bool.noConfusion h⟩⟩⟩
 .exact hK true ⟨λ_=>⟨U,U⟩,λ_=>rfl⟩
 .exact hK false ⟨λh=>Bool.noConfusion h,λh=>absurd h.2 U⟩
 .exact hK false ⟨λh=>Bool.noConfusion h,λh=>absurd h.1 U⟩
theorem zJ (o:al cI h (ah A) 3 A n K xs) (hn:n<=100000) (hK:∀h',Sa cI (ah A) h' A n K xs.reverse->Mt (ah A) h h'->h'.next=h.next->Q (.tuple #[]) h'):WC Tryz.prog 230 [ω A n K] h Q:=by
 obtain⟨hl,ho'⟩:=o;have ho:(A=ν/\n=0)\/∃g,A=ξ ⟨g,0,ν⟩/\g<h.next/\Bk h g (xs.map (Value.int .i64)) 3:=by
  rcases ho' with⟨rfl,rfl,_⟩ | ⟨g,cells,rfl,-,h2,h3,h4,-,-,h7⟩
  .exact .inl ⟨rfl,rfl⟩
  .refine .inr ⟨g,rfl,h2,?_⟩;have:cells=xs.map (Value.int .i64):=by
    apply List.ext_getElem?;intro i;by_cases hi:i<n
    .have hx:xs[i]? = ξ (xs[i]' U):=List.getElem?_eq_getElem _;have h8:(cells.drop (i*1)).take 1 = [ψ η (xs[i]' U)]:=h7 i _ hx;rw[List.getElem?_map,hx];have h9:=congrArg (λl=>l[0]?) h8;simpa using h9
    .rw[List.getElem?_eq_none (by rw[h4];show n*1<=i;omega),List.getElem?_eq_none (by simp;omega)]
   rw[<-this];exact h3
 have w0:IntKind.i64.wrap ((n:Int) - 1)=(n:Int) - 1:=af U U;refine fP ⟨_,w0,λm x y h1=>∃(i:Nat) (ws:List Int),x=i/\y=(n:Int) - 1 - i/\i<=n/\m=n - i/\ws.length=n/\(∀k,k<n->ws[k]? = if k<i\/n<=k+i then xs[n - 1 - k]? else xs[k]?)/\(∀g,A=ξ ⟨g,0,ν⟩->Bk h1 g (ws.map (Value.int .i64)) 3)/\h1.next=h.next/\(∀b,¬ah A b->h1.get b=h.get b),n,⟨0,xs,rfl,U,Nat.zero_le _,rfl,hl,λk hk=>by rw[if_neg U],λg hA=>?_,rfl,λ_ _=>rfl⟩,?_⟩
 .rcases ho with⟨h1,_⟩ | ⟨g',h1,_,h3⟩
  .rw[h1]at hA;cases hA
  .rw[h1]at hA;injection hA with hA;injection hA with hA;subst hA;exact h3
 rintro m x y h1 ⟨i,ws,rfl,rfl,hi,rfl,hwl,hws,hb,hz,hoth⟩;refine⟨λhlt=>?_,λhge=>?_⟩
 .obtain⟨g,rfl,hg⟩:∃g,A=ξ ⟨g,0,ν⟩/\g<h.next:=by
   rcases ho with⟨_,h1⟩ | ⟨g,h1,h2,_⟩
   .omega
   .exact⟨g,h1,h2⟩
  have b1:=hb g rfl;obtain⟨j,hj⟩:∃j,n - 1 - i=j:=⟨_,rfl⟩;obtain⟨u,hu⟩:∃u,ws[j]? = ξ u:=⟨_,List.getElem?_eq_getElem U⟩;obtain⟨v,hv⟩:∃v,ws[i]? = ξ v:=⟨_,List.getElem?_eq_getElem U⟩;have wi:IntKind.i64.wrap ((i:Int)+1)=((i+1:Nat):Int):=by rw[Int.natCast_succ];exact af U U
  have wj:IntKind.i64.wrap ((j:Int) - 1)=(n:Int) - 1 - ((i+1:Nat):Int):=by
   rw[af U U];omega
  obtain⟨h2,s2,b2,z2,o2⟩:=cP b1 (k:=i) U u;obtain⟨h3,s3,b3,z3,o3⟩:=cP b2 (k:=j) (by simp;omega) v;refine⟨j,U,g,0,rfl,U,_,jg b1 hu,i,rfl,U,_,jg b1 hv,U,h2,s2,U,h3,s3,_,wi,_,wj,n - (i+1),U,i+1,(ws.set i u).set j v,rfl,rfl,U,rfl,by simp[hwl],λk hk=>?_,λg' hA=>?_,U,λb hn=>(o3 b (λe=>hn e)).trans ((o2 b (λe=>hn e)).trans (hoth b hn))⟩
  .rw[List.getElem?_set,List.getElem?_set];have e1:=hws i U;have e2:=hws j U;rw[if_neg U,hv]at e1;rw[if_neg U,hu]at e2;by_cases k1:j=k
   .subst k1;rw[if_pos rfl,if_pos (by simp;omega),if_pos U];rw[e1]
    congr 1
    omega
   .rw[if_neg k1];by_cases k2:i=k
    .subst k2;rw[if_pos rfl,if_pos U,if_pos U,e2]
     congr 1
     omega
    .rw[if_neg k2,hws k hk];by_cases k3:k<i\/n<=k+i
     .rw[if_pos k3,if_pos U]
     .rw[if_neg k3,if_neg U]
  .injection hA with hA;injection hA with hA;subst hA;exact b3
 .have hrev:ws=xs.reverse:=by
   apply List.ext_getElem?;intro k;by_cases hk:k<n
   .rw[hws k hk,List.getElem?_reverse U,hl];by_cases k3:k<i\/n<=k+i
    .rw[if_pos k3]
    .rw[if_neg k3]
     congr 1
     omega
   .rw[List.getElem?_eq_none U,List.getElem?_eq_none (by simp;omega)]
  subst hrev;refine hK h1 ?_ ⟨U,λb _ hn=>hoth b hn⟩ hz;rcases ho with⟨rfl,rfl⟩ | ⟨g,rfl,hg,-⟩
  .have:xs = []:=List.eq_nil_of_length_eq_zero hl;subst this;rcases ho' with⟨_,_,rfl⟩ | ⟨g,_,h9,_⟩
   .exact⟨rfl,.inl ⟨rfl,rfl,rfl⟩,λh=>absurd h (Nat.lt_irrefl _)⟩
   .cases h9
  .exact Sa.of_ints (k:=.i64) (F:=ah (ξ ⟨g,0,ν⟩)) (hb g rfl) hwl rfl U
theorem FQ (B:PA h0 N p g o C q mp bf dn hp cA cK rd lp D h) (hna:N.na<=1000) (hs:s<N.na) (ht:t<N.na) (hst:s≠t){kE kO:Nat->Nat->Option Nat}{par rank:Nat->Nat}{done w:Nat->Option Nat}{cnt c:Nat}(hb:Bk h bf ((jn par N.na).map (Value.int .i64)) 3)
  (hP:Bp aH (qn kE kO t) s done w par rank cnt) (hdn:∀a x,done a=ξ x->a<N.na) (hcnt:cnt<=1000) (hw:w t=ξ c) (hnt:done t=ν)
  (hK:∀(A:Option Addr) (K:Nat) (l:List Nat) (h':AH),Sa cI (λb=>h.next<=b) h' A l.length K (ints l)->bm kE kO (λ_=>True) t s c l->l.Nodup->l.length<=cnt+1->Nw h h'->Q (ω A l.length K) h') :
  WC Tryz.prog 169 [μ (ξ ⟨q,0,ν⟩),ψ η s,ψ η t] h Q:=by
 obtain⟨P1,P2,P3,P4,P5,P6,P7,P8,P9,-⟩:=B.pos;refine jS ⟨λm A1 n1 K1 x h1=>∃(b cb:Nat) (l:List Nat),x=b/\b<N.na/\al cI h1 (ah A1) 3 A1 n1 K1 (ints l)/\(∀z,ah A1 z->h.next<=z)/\Nw h h1/\n1+m<=cnt+1/\(b=s->cb=0)/\(b≠s->∃ca y,done (par b)=ξ ca/\qn kE kO t (par b) b=ξ y/\cb=ca+y/\rank (par b)<m/\(b=t\/rank (par b)<rank b))/\
  ((b=t/\l = []/\cb=c)\/(b≠t/\∃cr,bm kE kO (λ_=>True) t b cr l.reverse/\cb+cr=c))/\l.Nodup/\∀z∈l,z=t\/rank b<rank z,cnt+1,⟨t,c,[],rfl,ht,al.nil _ _ _ _,λz hz=>hz.elim,Nw.refl _,U,λe=>hP.zero c (.inr (e ▸ hw)),λe=>?_,.inl ⟨rfl,rfl,rfl⟩,List.nodup_nil,λz hz=>by cases hz⟩,?_⟩
 .obtain⟨ca,y,h1,h2,h3⟩:=hP.step t c e (.inr hw);exact⟨ca,y,h1,h2,h3,by have:=hP.rank_lt _ _ h1;omega,.inl rfl⟩
 rintro m A1 n1 K1 x h1 ⟨b,cb,l,rfl,hbn,o1,lo1,k1,hm,hbs,hbp,hsuf,hnd,hrk⟩;have B1:=B.next k1;have hl:l.length=n1:=by have:=o1.1;simpa[ints]using this
 refine⟨λhe=>?_,λhne=>?_⟩
 .have he':b=s:=U;subst he';obtain rfl:=hbs rfl;rcases hsuf with⟨e,-⟩ | ⟨-,cr,hR,hc⟩
  .exact absurd e hst
  .obtain rfl:cr=c:=U;refine zJ o1 U λh2 s2 m2 z2=>?_;have e:(ints l).reverse=ints l.reverse:=by simp[ints]
   rw[e]at s2;have:=hK A1 K1 l.reverse h2 (by rw[List.length_reverse,hl];exact s2.mono λz hz _=>lo1 z hz) hR (List.pairwise_reverse.2 (hnd.imp λh=>Ne.symm h)) (by rw[List.length_reverse];omega) (m2.is_nw k1 lo1);rw[List.length_reverse,hl]at this;exact⟨rfl,this⟩
 .obtain⟨ca,y,h2,h3,h4,h5,hdb⟩:=hbp (λe=>hne (by rw[e]));have hpn:=hdn _ _ h2;have hpt:par b≠t:=λe=>by rw[e,hnt]at h2;cases h2
  refine λh3' e3=>?_;obtain⟨k3,g3,z3⟩:=aj e3;have hz:Sz cI (λz=>z=h1.next) h3' (ξ ⟨h1.next,0,ν⟩) 1 2 [(b:Int)]:=Sz.one g3 rfl U rfl rfl;obtain⟨A',K',h4',y1,y2,y3,y4⟩:=aV (r:=cI) (cE _) dC (o1.nw k3) hz U U;have z1:=k1.next;have z4:=y3.next;have k4:Nw h h4':=y3.is_nw (k1.trans k3) lo1;have B4:=B.next k4;refine⟨A',n1+1,K',h4',y1,q,0,rfl,_,_,_,aa B4.blk rfl,b,rfl,bf,0,rfl,hbn,(par b:Nat),?_,rank (par b),h5,par b,ca,l ++ [b],rfl,hpn,?_,λz hz=>(y4 z hz).elim (lo1 z) (λh=>U),k4,U,λe=>hP.zero ca (.inl (e ▸ h2)),λe=>?_,.inr ⟨hpt,?_⟩,?_,?_⟩
  .rw[aT (k4.bk P9 hb),Nat.zero_add];simp[jn,hbn]
  .have e:ints (l ++ [b])=ints l ++ [(b:Int)]:=by simp[ints]
   rw[e];exact y2
  .obtain⟨ca',y',q1,q2,q3⟩:=hP.step _ ca e (.inl h2);exact⟨ca',y',q1,q2,q3,hP.earlier _ ca e h2,.inr (hP.earlier _ ca e h2)⟩
  .rw[List.reverse_append];rcases hsuf with⟨rfl,rfl,rfl⟩ | ⟨hbt,cr,hR,hc⟩
   .refine⟨y,.last ?_,U⟩;unfold qn at h3;rw[if_pos rfl]at h3;exact h3
   .refine⟨y+cr,.on ?_ trivial hR,U⟩;unfold qn at h3;rw[if_neg hbt]at h3;exact h3
  .rw[List.nodup_append];refine⟨hnd,List.pairwise_singleton _ _,λu hu u' hu' e=>?_⟩;have hu2:u' = b:=by simpa using hu'
   rw[e,hu2]at hu;rcases hsuf with⟨-,hl0,-⟩ | ⟨hbt,-⟩
   .rw[hl0]at hu;cases hu
   .rcases hrk _ hu with e | e
    .exact hbt e
    .omega
  .intro u hu;rcases List.mem_append.1 hu with hu | hu
   .rcases hsuf with⟨-,hl0,-⟩ | ⟨hbt,-⟩
    .rw[hl0]at hu;cases hu
    .rcases hrk _ hu with e | e
     .exact .inl e
     .right;rcases hdb with h | h
      .exact absurd h hbt
      .omega
   .have hu2:u=b:=by simpa using hu
    rw[hu2];exact hdb
end
end Eva
end
section
open Go Go.RowKit
theorem wW {N:ab}{p:List (List Int)}{costs:List Int}(hok:N.Ok) (hp:aB N.nv p) (hco:bG N p costs){k s t:Nat}(h1:1<=k) (hkl:k<=p.length) (hs:s<N.na) (hin:N.inA p k (ap p k (N.to s)) s) (ht:t∈N.outs p k (ap p k (N.to s))) :
  gg N (N.win p k (ap p k (N.to s))) s t (N.ent p costs k s t):=by
 have:=ab.mem_outs.1 ht;exact hco.entOk hok hp k s t h1 hkl hs this.1 hin this.2
namespace Eva
structure RP (h0:AH) (q mp bf dn hp n:Nat) (D S:Nat->Prop) (rd:Int) (done w:Nat->Option Nat) (par:Nat->Nat) (h:AH):Prop where
 dnb:∃dl:List Int,Bk h dn (dl.map (Value.int .i64)) 3/\dl.length=n/\(∀a x,dl[a]? = ξ x->(x=rd↔(done a).isSome=true))/\∀x∈dl,x<=rd
 bf_:Bk h bf ((jn par n).map (Value.int .i64)) 3
 heap:bi h S hp n w
 sep:∀b,S b->h0.next<=b/\b<h.next/\b≠q/\b≠mp/\b≠bf/\b≠dn/\¬D b
section
variable {h h' h0:AH}{Q:Value->AH->Prop}{Fa F Fo:Nat->Prop}{N:ab}{p:List (List Int)}{g o C q mp bf dn hp n:Nat}{cA:Option Addr}{cK:Nat}{rd lp:Int}{D D' S S':Nat->Prop}{a k cell s t:Nat}{costs:List Int}{done w:Nat->Option Nat}{par:Nat->Nat}
theorem tj {S:Nat->Prop}{hp n:Nat}{w:Nat->Option Nat}(H:bi h S hp n w):∀b,S b->b<h.next:=λb hb=>by
 obtain⟨row,costs',A',K',Bc,Bs,seats,-,-,-,q4⟩:=H;exact q4 b hb
theorem RP.grow (R:RP h0 q mp bf dn hp n D S rd done w par h) (hpos:dn<h.next/\bf<h.next/\dn≠mp/\bf≠mp) (m:Mt (λb=>b=mp) h h') (hD:∀b,D' b->D b\/h.next<=b):RP h0 q mp bf dn hp n D' S rd done w par h':=by
 obtain⟨dl,d1,d2⟩:=R.dnb;have z:=m.next;refine⟨⟨dl,m.bk hpos.1 hpos.2.2.1 d1,d2⟩,m.bk hpos.2.1 hpos.2.2.2 R.bf_,R.heap.off m λb hb e=>(R.sep b hb).2.2.2.1 e,λb hb=>?_⟩;obtain⟨s1,s2,s3,s4,s5,s6,s7⟩:=R.sep b hb;exact⟨s1,U,s3,s4,s5,s6,λhd=>(hD b hd).elim s7 (λh=>U)⟩
theorem fSq (B:PA h0 N p g o C q mp bf dn hp cA cK rd lp D h) (R:RP h0 q mp bf dn hp N.na D S rd done w par h) (G:eA h0 Fa F g N) (O:eL h0 Fo o N p) (bc:Bk h0 C (costs.map (Value.int .i64)) 2) (hC:C<h0.next) (hco:bG N p costs) (hsz:N.size p<1000000)
  (h1:1<=k) (hkl:k<=p.length) (hs:s<N.na) (hcell:ap p k (N.to s)=cell) (hin:N.inA p k cell s) (ht:t∈N.outs p k cell) (hent:N.ent p costs k s t<an) (hrd:0<=rd/\rd<=9000000000000000000)
  (hK:∀(A:Option Addr) (K:Nat) (l:List Nat) (D' S':Nat->Prop) (done' w':Nat->Option Nat) (par':Nat->Nat) (h':AH),Sa cI (λb=>h.next<=b/\¬D' b/\¬S' b) h' A l.length K (ints l)->bm (ke N p k cell (N.ent p costs)) (pg N p k cell (N.ent p costs)) (λ_=>True) t s (N.ent p costs k s t).toNat l->l.Nodup->l.length<=N.na+1->
   PA h0 N p g o C q mp bf dn hp cA cK (rd+1) lp D' h'->RP h0 q mp bf dn hp N.na D' S' (rd+1) done' w' par' h'->Mt (λb=>b=q\/b=mp\/b=bf\/b=dn\/S b) h h'->(∀b,D' b->D b\/h.next<=b)->(∀b,S' b->S b\/h.next<=b)->Q (.tuple #[ω A l.length K,.bool true]) h') :
  WC Tryz.prog 90 [μ (ξ ⟨q,0,ν⟩),ψ η k,ψ η s,ψ η t] h Q:=by
 have hok:=G.ok;have hpo:=O.hp;have hna:=G.few.2;have hto:=(ab.to_lt hok hs).1;obtain⟨htn,hta⟩:=ab.mem_outs.1 ht;have hst:s≠t:=λe=>hta.2 (by rw[<-e];exact hin.1);obtain⟨P1,P2,P3,P4,P5,P6,P7,P8,P9,P10,P11,P12,P13,P14⟩:=B.pos;have TH:gg N (N.win p k cell) s t (N.ent p costs k s t):=by
  have:=wW (costs:=costs) hok hpo hco h1 hkl hs (by rw[hcell];exact hin) (by rw[hcell];exact ht);rw[hcell]at this;exact this
 have val:∀v:Nat,ic aH (qn (ke N p k cell (N.ent p costs)) (pg N p k cell (N.ent p costs)) t) s t v->(v:Int)=N.ent p costs k s t:=λv hv=>
  (Dw hok hpo (hco.entOk hok hpo) h1 hkl hs hin hta hst hv).one TH
 have hp6:=hpo.few;refine jk ⟨q,0,rfl,_,aa B.blk rfl,zU (G.nw B.nw) hs ⟨_,rfl,nE B hpo h1 hkl hto hcell ⟨_,_,rfl,λ_=>⟨_,aa B.blk rfl,BQ R.heap λh3 H3 m3 z3=>⟨rfl,?_⟩⟩,λh=>Bool.noConfusion h⟩⟩⟩;have hSn:∀b,S b->h0.next<=b/\b≠q/\b≠mp/\¬D b:=λb hb=>by
  obtain⟨s1,s2,s3,s4,s5,s6,s7⟩:=R.sep b hb;exact⟨s1,s3,s4,s7⟩
 have B3:=B.off m3 hSn;obtain⟨h4,s4,b4,z4,o4⟩:=aD (v:=ψ η (rd+1)) B3.blk (o:=8) (by simp) rfl;refine⟨rd,aa B3.blk rfl,rd+1,af U U,h4,by rw[Nat.zero_add];exact s4,?_⟩;have m4:Mt (λb=>b=q) h3 h4:=⟨U,λb _ hb=>o4 b hb⟩;have B4:PA h0 N p g o C q mp bf dn hp cA cK (rd+1) lp D h4:=by
  obtain⟨f,f1,f2⟩:=B3.map_;have nD:∀b,D b->¬b=q:=λb hd=>(B3.dlo b hd).2.2.1;refine⟨m4.is_nw B3.nw λb hb=>U,b4,B3.cells.off m4 nD,⟨f,f1.keep (o4 _ (Ne.symm P4)),λl c v hv=>?_⟩,λb hb=>by have:=B3.dlo b hb;omega,U⟩;obtain⟨A,K,B',L,e,s1,s2⟩:=f2 l c v hv;exact⟨A,K,B',L,e,s1.off m4 nD,s2.off m4 nD⟩
 have H4:bi h4 S hp N.na (λ_=>ν):=H3.off m4 λb hb e=>(R.sep b hb).2.2.1 e;refine⟨_,aa b4 rfl,zw H4 hs (Int.le_refl _) U λh5 S5 H5 m5 g5=>⟨_,rfl,?_⟩⟩;have z5:=m5.next;have S5lt:=tj H5;have S5o:∀b,S5 b->S b\/h.next<=b:=λb hb=>(g5 b hb).elim .inl (λh=>.inr U);have B5:PA h0 N p g o C q mp bf dn hp cA cK (rd+1) lp D h5:=B4.off m5 hSn;obtain⟨dl,d1,d2,d3,d4⟩:=R.dnb;have R5:RP h0 q mp bf dn hp N.na D S5 (rd+1) (λ_=>ν) (λb=>if b=s then ξ 0 else ν) par h5:=by
  have keep:∀{b},b<h.next->b≠q->¬S b->h5.get b=h.get b:=fun {b} hb hq hS=>(m5.get b U hS).trans ((o4 b hq).trans (m3.get b hb hS));refine⟨⟨dl,(keep P11 P12 (λhs=>(R.sep _ hs).2.2.2.2.2.1 rfl)).trans d1,d2,λa x hx=>?_,λx hx=>by have:=d4 x hx;omega⟩,(keep P9 (Ne.symm P5) (λhs=>(R.sep _ hs).2.2.2.2.1 rfl)).trans R.bf_,H5,λb hb=>?_⟩
  .have:=d4 x (List.mem_of_getElem? hx);exact⟨λe=>absurd e U,λe=>Bool.noConfusion e⟩
  .have hlt:=S5lt b hb;rcases g5 b hb with hb | hb
   .obtain⟨s1,s2,s3,s4,s5,s6,s7⟩:=R.sep b hb;exact⟨s1,hlt,s3,s4,s5,s6,s7⟩
   .have:=B.nw.next;exact⟨U,hlt,U,U,U,U,λhd=>by have:=(B.dlo b hd).2.1;omega⟩
 have mt05:Mt (λb=>b=q\/b=mp\/b=bf\/b=dn\/S b) h h5:=⟨U,λb hb hn=>(m5.get b U (λhs=>hn (.inr (.inr (.inr (.inr hs)))))).trans ((o4 b (λe=>hn (.inl e))).trans (m3.get b hb (λhs=>hn (.inr (.inr (.inr (.inr hs)))))))⟩;obtain⟨eO,heO⟩:∃eO,eO=qn (ke N p k cell (N.ent p costs)) (pg N p k cell (N.ent p costs)) t:=⟨_,rfl⟩;rw[<-heO]at val;refine⟨λm h6=>∃(done w:Nat->Option Nat) (par rank:Nat->Nat) (D6 S6:Nat->Prop),PA h0 N p g o C q mp bf dn hp cA cK (rd+1) lp D6 h6/\RP h0 q mp bf dn hp N.na D6 S6 (rd+1) done w par h6/\lV aH eO s done (gd aH w)/\Bp aH eO s done w par rank (dc done N.na)/\(∀b c,w b=ξ c->c<aH/\(b=t\/N.atK p k cell b))/\(∀a c,done a=ξ c->a<N.na)/\done t=ν/\((done=(λ_=>ν)/\w=λb=>if b=s then ξ 0 else ν)\/done s≠ν)/\m=N.na - dc done N.na/\Mt (λb=>b=q\/b=mp\/b=bf\/b=dn\/S b) h h6/\(∀b,D6 b->D b\/h.next<=b)/\(∀b,S6 b->S b\/h.next<=b),N.na,⟨λ_=>ν,_,par,λ_=>0,D,S5,B5,R5,?_,?_,λb c hb=>?_,(λa c h=>by cases h),rfl,.inl ⟨rfl,rfl⟩,?_,mt05,λb hb=>.inl hb,S5o⟩,?_⟩
 .rw[j7];exact lV.new (by unfold aH;omega)
 .have e:dc (λ_=>ν) N.na=0:=by simp[dc]
  rw[e];exact Bp.start rfl rfl _ _
 .by_cases e:b=s
  .simp[e]at hb;exact⟨by unfold aH;omega,.inr (by rw[e];exact FP hok hpo h1 hkl hs hin)⟩
  .simp[e]at hb
 .have e:dc (λ_=>ν) N.na=0:=by simp[dc]
  rw[e];rfl
 rintro m h6 ⟨done,w,par,rank,D6,S6,B6,R6,hD,hPr,hwI,hdn,hdt,hst6,rfl,mt6,hD6,hS6⟩;have hfin:gd aH w=w:=by
  funext b
  unfold gd;cases hb:w b with
  | none=>rfl
  | some c=>simp[(hwI b c hb).1]
 obtain⟨p61,p62,p63,p64,p65,p66,p67,p68,p69,p610,p611,p612,p613,p614⟩:=B6.pos;refine⟨_,aa B6.blk rfl,Fm R6.heap (λhq=>?_) (λa c h7 hkN hqk hmin H7 m7 z7=>?_)⟩
 .exfalso;have:=hD.over (λb c hb=>by rw[hq b]at hb;cases hb) t;rw[hdt]at this;have:=val _ this;simp only[Option.getD_none]at this;unfold an aH at *;omega
 obtain⟨hcI,hka⟩:=hwI a c hqk;have offS:∀b,S6 b->h0.next<=b/\b≠q/\b≠mp/\¬D6 b:=λb hb=>by have:=R6.sep b hb;exact⟨this.1,this.2.2.1,this.2.2.2.1,this.2.2.2.2.2.2⟩
 have B7:=B6.off m7 offS;obtain⟨dl6,e1,e2,e3,e4⟩:=R6.dnb;have dn7:=m7.bk p611 (λhs=>(R6.sep _ hs).2.2.2.2.2.1 rfl) e1;have bf7:=m7.bk p69 (λhs=>(R6.sep _ hs).2.2.2.2.1 rfl) R6.bf_;have hcn:dc done N.na<=N.na:=kZ _ _;have mt7:Mt (λb=>b=q\/b=mp\/b=bf\/b=dn\/S b) h h7:=⟨by have:=mt6.next;omega,λb hb hn=>(m7.get b (by have:=mt6.next;omega) (λhs=>(hS6 b hs).elim (λh=>hn (.inr (.inr (.inr (.inr h))))) (λh=>U))).trans (mt6.get b hb hn)⟩;refine⟨_,_,_,rfl,λ_=>⟨λhe=>?_,λhne=>?_⟩,λh=>Bool.noConfusion h⟩
 .obtain rfl:a=t:=U;have hL:ic aH eO s a c:=hD.found (by rw[hfin];exact hqk) (λb c' hb=>hmin b c' (by rw[hfin]at hb;exact hb));have hv:=val c hL;have hz7:=mt7.next;refine FQ B7 hna hs htn hst (kE:=ke N p k cell (N.ent p costs)) (kO:=pg N p k cell (N.ent p costs)) (cnt:=dc done N.na) bf7 (by rw[<-heO];exact hPr) hdn U hqk hdt λA K l h8 s8 r8 nd8 l8 k8=>⟨_,_,_,rfl,?_⟩;have hz8:=k8.next;exact hK A K l D6 S6 done (del w a) par h8 (s8.mono λb hb _=>⟨U,λhd=>by have:=(B6.dlo b hd).2.1;omega,λhs=>by have:=(R6.sep b hs).2.1;omega⟩) (by rw[<-hv,Int.toNat_natCast];exact r8) nd8 U (B7.next k8) ⟨⟨dl6,k8.bk U dn7,e2,e3,e4⟩,k8.bk U bf7,H7.nw k8,λb hb=>by have:=R6.sep b hb;exact⟨this.1,U,this.2.2⟩⟩ (mt7.nw k8) hD6 hS6
 .have hat:a≠t:=λe=>hne (by rw[e]);have hka':N.atK p k cell a:=hka.resolve_left hat;have hdk:done a=none:=(hD.wait a c (by rw[hfin];exact hqk)).2.2;obtain⟨h9,s9,b9,z9,o9⟩:=cP dn7 (k:=a) U (rd+1);obtain⟨dx,hdx⟩:∃dx,dx=upd done a (ξ c):=⟨_,rfl⟩;have m79:Mt (λb=>b=dn) h7 h9:=⟨U,λb _ hb=>o9 b hb⟩;have B9:=B7.off m79 λb hb=>by subst hb;exact⟨p610,p612,p613,λhd=>(B6.dlo _ hd).2.2.2.2.2 rfl⟩
  have R9:RP h0 q mp bf dn hp N.na D6 S6 (rd+1) dx (del w a) par h9:=by
   refine⟨⟨dl6.set a (rd+1),b9,by simp[e2],λb x hx=>?_,λx hx=>?_⟩,(o9 _ (Ne.symm p614)).trans bf7,H7.off m79 λb hb e=>(R6.sep b hb).2.2.2.2.2.1 e,λb hb=>by have:=R6.sep b hb;exact⟨this.1,U,this.2.2⟩⟩
   .rw[List.getElem?_set]at hx;rw[hdx];simp only[upd];by_cases e:a=b
    .rw[if_pos e]at hx;rw[if_pos e.symm]
     split at hx
     .obtain rfl:=Option.some.inj hx;exact⟨λ_=>rfl,λ_=>rfl⟩
     .cases hx
    .rw[if_neg e]at hx;rw[if_neg (Ne.symm e)];exact e3 b x hx
   .rcases List.mem_or_eq_of_mem_set hx with h | rfl
    .exact e4 x h
    .exact Int.le_refl _
  refine⟨_,_,_,aa B7.blk rfl,_,aa B7.blk rfl,a,rfl,dn,0,rfl,hkN,h9,s9,((k - 1:Nat):Int),by rw[Int.natCast_sub h1];exact af U U,FO B9 G O bc hC hco hsz hkN U λA4 K4 A5 K5 ol pr D' h10 hR B10 s4 s5 m10 hd1 hd2=>⟨_,_,_,_,_,_,rfl,?_⟩⟩;have z10:=m10.next;have hll:=hR.len;have hlf:=hR.few;have R10:=R9.grow U m10 hd2;obtain⟨st,hst_⟩:∃st:Nat->(Nat->Option Nat)×(Nat->Nat),∀j,st j=bJ dx a (zW N p k cell t c ol pr j) (del w a,par):=⟨_,λ_=>rfl⟩;have st0:st 0=(del w a,par):=hst_ 0;obtain⟨E,hE⟩:∃E:Nat->Prop,∀b,E b↔(b<h0.next\/h9.next<=b\/D6 b)/\b<h10.next:=⟨_,λ_=>Iff.rfl⟩;have s4':Sa cI E h10 A4 ol.length K4 (ints ol):=s4.mono λb hb hlt=>(hE b).2 ⟨hb,hlt⟩;have s5':Sa cI E h10 A5 ol.length K5 pr:=s5.mono λb hb hlt=>(hE b).2 ⟨hb,hlt⟩;have hS6E:∀b,S6 b->¬E b:=λb hb he=>by
   have h1:=(hE b).1 he;have h2:=R6.sep b hb;rcases h1.1 with h | h | h
   .omega
   .omega
   .exact h2.2.2.2.2.2.2 h
  have hbfE:¬E bf:=λhe=>by
   have h1:=(hE bf).1 he;rcases h1.1 with h | h | h
   .omega
   .omega
   .exact(B6.dlo bf h).2.2.2.2.1 rfl
  have hz7:=mt7.next;have mt9:Mt (λb=>b=q\/b=mp\/b=bf\/b=dn\/S b) h h9:=⟨U,λb hb hn=>(o9 b (λe=>hn (.inr (.inr (.inr (.inl e)))))).trans (mt7.get b hb hn)⟩;have mt10:Mt (λb=>b=q\/b=mp\/b=bf\/b=dn\/S b) h h10:=⟨U,λb hb hn=>(m10.get b U (λe=>hn (.inr (.inl e)))).trans (mt9.get b hb hn)⟩;have hD':∀b,D' b->D b\/h.next<=b:=λb hb=>(hd2 b hb).elim (hD6 b) (λh=>.inr U);obtain⟨J,hJ⟩:∃J:Nat->Int->AH->Prop,∀m x h',J m x h'↔∃(j:Nat) (S7:Nat->Prop),x=j/\j<=ol.length/\m=ol.length - j/\h10.next<=h'.next/\PA h0 N p g o C q mp bf dn hp cA cK (rd+1) lp D' h'/\RP h0 q mp bf dn hp N.na D' S7 (rd+1) dx (st j).1 (st j).2 h'/\(∀b,S7 b->S6 b\/h10.next<=b)/\Sa cI E h' A4 ol.length K4 (ints ol)/\Sa cI E h' A5 ol.length K5 pr/\Mt (λb=>b=q\/b=mp\/b=bf\/b=dn\/S b) h h':=⟨_,λ_ _ _=>Iff.rfl⟩;refine⟨J,ol.length,(hJ _ _ _).2 ⟨0,S6,rfl,Nat.zero_le _,rfl,Nat.le_refl _,B10,by rw[st0];exact R10,λb hb=>.inl hb,s4',s5',mt10⟩,λm3 x8 h11 hj=>?_⟩;obtain⟨j,S7,rfl,hj,rfl,hz11,B11,R11,hS7,t4,t5,mt11⟩:=(hJ _ _ _).1 hj;have hSE:∀b,S7 b->¬E b:=λb hb he=>(hS7 b hb).elim (λh=>hS6E b h he) (λh=>by have:=(hE b).1 he;omega);have hSo:∀b,S7 b->S b\/h.next<=b:=λb hb=>(hS7 b hb).elim (hS6 b) (λh=>.inr U);obtain⟨q1,q2,q3,q4,q5,q6,q7,q8,q9,q10,q11,q12,q13,q14⟩:=B11.pos;refine⟨λhlt=>?_,λhge=>?_⟩
  .obtain⟨b2,o2,x9,rfl,hF2,hb2,hx9,e9⟩:=t4.int (k:=j) U;obtain⟨b3,o3,x10,rfl,hF3,hb3,hx10,e10⟩:=t5.int (k:=j) U;obtain⟨bn,hbn,rfl⟩:∃bn:Nat,ol[j]? = ξ bn/\x9=(bn:Int):=by
    unfold ints at hx9;rw[List.getElem?_map]at hx9;cases hv:ol[j]? with
    | none=>rw[hv]at hx9;cases hx9
    | some bn=>rw[hv]at hx9;exact⟨bn,rfl,(Option.some.inj hx9).symm⟩
   have hbl:=hR.lt bn (List.mem_of_getElem? hbn);have hx:=hR.nn x10 (List.mem_of_getElem? hx10);have hw:=ab.w_bd hok bn;have e1:=wV (c:=(c:Int)) (x:=x10) (by unfold an aH at *;omega) hx;have fin:∀(h':AH) (S':Nat->Prop),Mt (λb=>S7 b\/b=bf) h11 h'->(∀b,S' b->S7 b\/h11.next<=b)->bi h' S' hp N.na (st (j+1)).1->Bk h' bf ((jn (st (j+1)).2 N.na).map (Value.int .i64)) 3->WR ((j:Int)+1) λx=>RE (ol.length - j) (J · x h'):=λh' S' mm hS' H' bf'=>by
    have hz:=mm.next;obtain⟨dl,c1,c2⟩:=R11.dnb;have bfs:¬S7 bf:=λhs=>(R11.sep _ hs).2.2.2.2.1 rfl;refine⟨((j+1:Nat):Int),by rw[Int.natCast_succ];exact af U U,ol.length - (j+1),U,(hJ _ _ _).2 ⟨j+1,S',rfl,U,rfl,U,B11.off mm λb hb=>?_,⟨⟨dl,mm.bk q11 (λhs=>hs.elim (λh=>(R11.sep _ h).2.2.2.2.2.1 rfl) (λe=>q14 e)) c1,c2⟩,bf',H',λb hb=>?_⟩,λb hb=>(hS' b hb).elim (hS7 b) (λh=>.inr U),t4.off mm λb hb hs=>hs.elim (λh=>hSE b h hb) (λe=>hbfE (e ▸ hb)),t5.off mm λb hb hs=>hs.elim (λh=>hSE b h hb) (λe=>hbfE (e ▸ hb)),?_⟩⟩
    .rcases hb with hb | rfl
     .have:=R11.sep b hb;exact⟨this.1,this.2.2.1,this.2.2.2.1,this.2.2.2.2.2.2⟩
     .exact⟨q3,Ne.symm q5,Ne.symm q6,λhd=>(B11.dlo _ hd).2.2.2.2.1 rfl⟩
    .have hlt:=tj H' b hb;rcases hS' b hb with hb | hb
     .have:=R11.sep b hb;exact⟨this.1,hlt,this.2.2⟩
     .have:=B11.nw.next;exact⟨U,hlt,U,U,U,U,λhd=>by have:=(B11.dlo b hd).2.1;omega⟩
    .have:=mt11.next;exact⟨U,λb hb hn=>(mm.get b U (λhs=>hs.elim (λh=>(hSo b h).elim (λh=>hn (.inr (.inr (.inr (.inr h))))) (λh=>U)) (λe=>hn (.inr (.inr (.inl e)))))).trans (mt11.get b hb hn)⟩
   have same:st (j+1)=st j->WR ((j:Int)+1) λx=>RE (ol.length - j) (J · x h11):=λe=>fin h11 S7 (Mt.refl _ _) (λb hb=>.inl hb) (by rw[e];exact R11.heap) (by rw[e];exact R11.bf_);have st_none:zV N p k cell t c ol pr j=ν->st (j+1)=st j:=λe=>by
    rw[hst_,hst_,vf,e];simp
   have st_some:∀y,zV N p k cell t c ol pr j=ξ (bn,y)->st (j+1)=ch dx a (st j) (bn,y):=λy e=>by
    rw[hst_,hst_,vf,e];show bJ dx a (zW N p k cell t c ol pr j ++ [_]) _=_;rw[ka]
   have tail:∀y:Int,0<=y->zV N p k cell t c ol pr j=(if y<an then ξ (bn,y.toNat) else ν)->TS (y<1152921504606846976) (LZ h11 q (0+7) λA5 n5 K5=>NK (bn:Int) λk3=>AQ A5 λb_5 o_5=>k3<n5/\LI h11 b_5 (o_5+k3) λx16=>LI h11 q (0+8) λx17=>TS (x16=x17) (WR ((j:Int)+1) λx18=>RE (ol.length - j) (J · x18 h11))
     (LP h11 q (0+5) λp6=>CB 79 [.pointer p6,ψ η (k3:Int),ψ η y] h11 λb4 h13=>BS b4 (LZ h13 q (0+6) λA6 n6 K6=>AQ A6 λb_6 o_6=>k3<n6/\ST h13 b_6 (o_6+k3) [ψ η (a:Int)] λh14=>WR ((j:Int)+1) λx19=>RE (ol.length - j) (J · x19 h14)) (WR ((j:Int)+1) λx20=>RE (ol.length - j) (J · x20 h13)))) (WR ((j:Int)+1) λx21=>RE (ol.length - j) (J · x21 h11)):=by
    intro y hy0 hy;refine⟨λhlt2=>?_,λhge2=>same (st_none (by rw[hy,if_neg hge2]))⟩;rw[if_pos hlt2]at hy;have nx:=st_some _ hy;obtain⟨dl,c1,c2,c3,c4⟩:=R11.dnb;have hdl:dl[bn]? = ξ (dl[bn]' U):=List.getElem?_eq_getElem _;refine⟨_,_,_,aa B11.blk rfl,bn,rfl,dn,0,rfl,hbl,_,jg c1 hdl,_,aa B11.blk rfl,λhdt=>same ?_,λhdf=>?_⟩
    .have:=(c3 bn _ hdl).1 hdt;rw[nx,ch,if_neg];intro h;rw[h]at this;cases this
    .have hnn:dx bn=none:=by
      cases hd:dx bn with
      | none=>rfl
      | some z=>exact absurd ((c3 bn _ hdl).2 (by rw[hd];rfl)) hdf
     rw[ch,if_pos hnn]at nx;refine⟨_,aa B11.blk rfl,zw R11.heap hbl hy0 (by unfold an at *;omega) λh15 S15 H15 m15 g15=>⟨_,rfl,λhpt=>?_,λhpf=>?_⟩⟩
     .have B15:=B11.off m15 λb hb=>by have:=R11.sep b hb;exact⟨this.1,this.2.2.1,this.2.2.2.1,this.2.2.2.2.2.2⟩
      have z15:=m15.next;have bf15:=m15.bk q9 (λhs=>(R11.sep _ hs).2.2.2.2.1 rfl) R11.bf_;obtain⟨h16,s16,b16,z16,o16⟩:=cP bf15 (k:=bn) (by simp[jn];omega) (a:Int);unfold jn at b16;rw[ym hbl]at b16;have m16:Mt (λb=>S7 b\/b=bf) h11 h16:=⟨U,λb hb hn=>(o16 b (λe=>hn (.inr e))).trans (m15.get b hb (λhs=>hn (.inl hs)))⟩;refine⟨_,_,_,aa B15.blk rfl,bf,0,rfl,hbl,h16,s16,fin h16 S15 m16 (λb hb=>(g15 b hb).elim .inl (λh=>.inr U)) ?_ ?_⟩
      .rw[nx];refine H15.off (S':=λb=>b=bf) ⟨U,λb _ hn=>o16 b hn⟩ λb hb e=>?_;rcases g15 b hb with h | h
       .exact(R11.sep b h).2.2.2.2.1 e
       .omega
      .rw[nx];simp only;rw[if_pos hpt];exact b16
     .refine fin h15 S15 (m15.mono λb hb _=>.inl hb) (λb hb=>(g15 b hb).elim .inl (λh=>.inr U)) (by rw[nx];exact H15) ?_;rw[nx];simp only;rw[if_neg (by rw[hpf];exact Bool.noConfusion)];exact m15.bk q9 (λhs=>(R11.sep _ hs).2.2.2.2.1 rfl) R11.bf_
   refine⟨j,rfl,b2,o2,rfl,U,_,e9,b3,o3,rfl,U,_,e10,Fg _ _ ⟨_,rfl,λhet=>?_,λhnt=>?_⟩⟩
   .have het':bn=t:=U;refine tail _ (by rw[e1];unfold an at *;omega) ?_;unfold zV;rw[hbn,hx10];simp only;rw[if_pos het']
   .have hnt':bn≠t:=λe=>hnt (by rw[e]);refine CC B11 G hpo h1 hkl hbl λy hy=>⟨_,rfl,λhyt=>?_,λhyf=>same (st_none ?_)⟩
    .have hwin:=hy.1 hyt;have e2':=wV (c:=ck (c:Int) x10) (x:=N.w bn) (by rw[e1];unfold an aH at *;omega) (by unfold an at *;omega);refine⟨_,aa B11.blk rfl,jf (G.nw B11.nw) hbl ⟨_,rfl,Fg _ _ ⟨_,rfl,tail _ (by rw[e2',e1];unfold an at *;omega) ?_⟩⟩⟩;unfold zV;rw[hbn,hx10];simp only;rw[if_neg hnt'];by_cases hl:ck (ck (c:Int) x10) (N.w bn)<an
     .rw[if_pos ⟨hwin,hl⟩,if_pos hl]
     .rw[if_neg (λh=>hl h.2),if_neg hl]
    .unfold zV;rw[hbn,hx10];simp only;rw[if_neg hnt',if_neg];intro h;have:=hy.2 h.1;rw[hyf]at this;cases this
  .obtain rfl:j=ol.length:=U;have hks:a=s\/done s≠none:=hst6.elim (λ⟨_,e⟩=>.inl (by
    rw[e]at hqk;by_cases h:a=s
    .exact h
    .simp[h]at hqk)) .inr
   have hstep:∀b y,(b,y)∈zW N p k cell t c ol pr ol.length->y<aH/\b<N.na/\∃x,eO a b=ξ x/\y=c+x:=λb y hb=>by
    rw[heO];exact hR.step hok hpo h1 hkl hka' ht hcI hb
   have hD2:=hD.round (par:=par) hqk hcI hmin (zW N p k cell t c ol pr ol.length) (λb x hb he hx _=>hR.put hok hpo h1 hkl hka' ht hcI (by rw[<-heO];exact he) hx) (λb y hb _=>(hstep b y hb).2.2);have hP2:=hPr.round hqk hdk (zW N p k cell t c ol pr ol.length) (λb y hb _ _=>(hstep b y hb).2.2) hks;rw[<-hdx,<-hst_]at hD2 hP2;have hcnt:=gB (c:=c) hdk N.na hkN;have hclt:=ta hdk hkN;rw[<-hcnt,<-hdx]at hP2;rw[<-hdx]at hcnt;refine⟨N.na - dc dx N.na,U,dx,(st ol.length).1,(st ol.length).2,_,D',S7,B11,R11,hD2,hP2,λb y hb=>?_,λb y hb=>?_,?_,.inr ?_,rfl,mt11,hD',hSo⟩
   .rw[hst_]at hb;rcases dN _ _ hb with⟨h3,-⟩ | ⟨-,h4,-⟩
    .simp only[del]at h3;by_cases e:b=a
     .simp[e]at h3
     .rw[if_neg e]at h3;exact hwI b y h3
    .obtain⟨g1,g2,x,g3,-⟩:=hstep b y h4;refine⟨g1,?_⟩;by_cases e:b=t
     .exact .inl e
     .right;rw[heO]at g3;unfold qn at g3;rw[if_neg e]at g3;exact CA hok hpo hkl h1 g3
   .rw[hdx]at hb;simp only[upd]at hb;by_cases e:b=a
    .omega
    .rw[if_neg e]at hb;exact hdn b y hb
   .rw[hdx];simp only[upd];rw[if_neg (Ne.symm hat)];exact hdt
   .rw[hdx];simp only[upd];rcases hks with e | e
    .rw[if_pos e.symm];intro h;cases h
    .split
     .intro h;cases h
     .exact e
end
end Eva
end
section
open Go Go.RowKit
namespace Eva
section
variable {h h' h0:AH}{Q:Value->AH->Prop}{Fa F Fo:Nat->Prop}{N:ab}{p:List (List Int)}{g o C:Nat}
theorem wX (G:eA h Fa F g N) (O:eL h Fo o N p) (hK:∀q mp bf dn hp cA cK D S h',PA h N p g o C q mp bf dn hp cA cK 0 0 D h'->RP h q mp bf dn hp N.na D S 0 (λ_=>ξ 0) (λ_=>ν) (λ_=>0) h'->Q (μ (ξ ⟨q,0,ν⟩)) h') :
  WC Tryz.prog 43 [μ (ξ ⟨g,0,ν⟩),μ (ξ ⟨o,0,ν⟩),ω (ξ ⟨C,0,ν⟩) (N.size p) (cx (N.size p))] h Q:=by
 have hna:=G.few.2;refine lU λh1 e1=>?_;obtain⟨k1,g1,z1⟩:=aj e1;refine yh (O.nw k1) λA2 K2 h2 s2 k2=>⟨_,_,_,rfl,mB (G.nw (k1.trans k2)) ⟨_,rfl,Fk N.na U λh4 S4 hp_ H4 k4 hS4=>⟨_,rfl,mB (G.nw ((k1.trans k2).trans k4)) ⟨_,rfl,N.na,rfl,U,λh6 e6=>?_⟩⟩⟩⟩;obtain⟨k6,g6,z6⟩:=aj e6;have k06:=((k1.trans k2).trans k4).trans k6;refine mB (G.nw k06) ⟨_,rfl,N.na,rfl,U,λh8 e8 h9 e9=>?_⟩;obtain⟨k8,g8,z8⟩:=aj e8;obtain⟨k9,g9,z9⟩:=aj e9;rw[a9]at g6 g8;have z2:=k2.next;have z4:=k4.next;have k89:=k8.trans k9;have k69:=k6.trans k89;have k49:=k4.trans k69;have S4lt:=tj H4;refine hK h8.next h.next h4.next h6.next hp_ A2 K2 (λb=>h1.next<=b/\b<h2.next) S4 h9 ⟨(k06.trans k89),g9,(s2.mono λb hb hlt=>⟨hb,hlt⟩).nw k49,⟨λ_=>ν,(dP.new g1).keep ((k2.trans k49).get _ U),λl c v hv=>by cases hv⟩,λb hb=>U,U⟩ ⟨⟨List.replicate N.na 0,?_,by simp,λa x hx=>?_,λx hx=>?_⟩,?_,H4.nw k69,λb hb=>?_⟩
 .have:=k9.bk U g8;rw[List.map_replicate];exact this
 .have:=List.mem_of_getElem? hx;simp at this;exact⟨λ_=>rfl,λ_=>this.2⟩
 .have:=List.eq_of_mem_replicate hx;omega
 .have:=k89.bk U g6;have e:jn (λ_=>0) N.na=List.replicate N.na 0:=by
   unfold jn;show(List.range N.na).map (λ_=>(0:Int))=_;rw[List.map_const',List.length_range]
  rw[e,List.map_replicate];exact this
 .have h5:=hS4 b hb;have h6:=S4lt b hb;omega
end
end Eva
end
end Go.Proofs.YtmbadhdpcdbdbaaGreatDoor
