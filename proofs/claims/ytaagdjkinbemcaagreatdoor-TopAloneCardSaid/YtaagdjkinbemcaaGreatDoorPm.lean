/-
Lemmas for TopAlone. No condition.
-/
import Derived.Test.YtaagdjkinbemcaaGreatDoorPl
import Derived.Test.YtaagdjkinbemcaaGreatDoorW7
import Derived.Test.YtaagdjkinbemcaaGreatDoorPi
import Derived.Test.YtaagdjkinbemcaaGreatDoorPf
import Derived.Test.YtaagdjkinbemcaaGreatDoorPk
namespace Go.Proofs.YtaagdjkinbemcaaGreatDoor
open _root_.Go.IntKind renaming i64->ν
open _root_.Go.Value renaming int->η,pointer->ψ,slice->ω
open _root_.Option renaming none->ξ,some->Y
set_option linter.unusedVariables false
set_option linter.unusedSimpArgs false
set_option linter.unusedSectionVars false
set_option linter.unnecessarySimpa false
section
open Go Go.RowKit
def fC (x:eQ):eQ:=(x.1,x.2.1,x.2.2.1,x.2.2.2.1,0)
structure cO (N:ab) (l:List eQ):Prop where
 len:l.length<=256
 ok:∀x∈l,fW N x
 one:∀(j i:Nat) (x y:eQ),j<i->l[j]? = Y x->l[i]? = Y y->fC x≠fC y
namespace Eva
section
variable {h h':AH}{F Fa:Nat->Prop}{Q:Value->AH->Prop}{A:Option Addr}{n K g:Nat}{N:ab}{xs:List eQ}
theorem JF (G:gS h Fa F g N) (hK:∀A1 n1 K1 A2 n2 K2 A3 n3 K3 h',Sa aS (λz=>h.next<=z) h' A1 n1 K1 N.vs->Sa aS (λz=>h.next<=z) h' A2 n2 K2 N.xa->Sa eH (λz=>h.next<=z) h' A3 n3 K3 N.ts->Nw h h'->Q (.agg #[ω A1 n1 K1,ω A2 n2 K2,ω A3 n3 K3]) h') :
  WC Tryz.prog 122 [ψ (Y ⟨g,0,ξ⟩)] h Q:=by
 refine lS λh1 e1=>?_;obtain⟨k1,g1,z1⟩:=aj e1;obtain⟨⟨hg1,hg2⟩,⟨a1,a2,a3,a4,a5⟩,⟨b1,b2,b3,b4,b5⟩,⟨c1,c2,c3,c4,c5⟩,-,-,-,ok,fw⟩:=G;refine⟨g,0,rfl,_,_,_,_,_,_,_,_,_,bi ((k1.ldC hg2 _).trans a4) ((k1.ldC hg2 _).trans b4) ((k1.ldC hg2 _).trans c4),?_⟩;refine Aj (a5.nw k1) (b5.nw k1) (c5.nw k1) ok λD3 A1 K1 A2 K2 A3 K3 h2 s1 s2 s3 lo lo3 k2=>⟨_,_,_,_,_,_,_,_,_,rfl,?_⟩;obtain⟨h3,t3,g3,z3,o3⟩:=dh (vs:=[ω A1 a2 K1,ω A2 b2 K2,ω A3 c2 K3]) (k2.bk U g1) rfl (eR rfl rfl rfl);have m3:Mt (λz=>z=h.next) h2 h3:=⟨U,λz _ hn=>o3 z hn⟩;have z2:=k2.next;refine⟨h3,t3,_,_,_,_,_,_,_,_,_,bi (aa g3 rfl) (aa g3 rfl) (aa g3 rfl),hK _ _ _ _ _ _ _ _ _ h3 ((s1.off m3 λz hz e=>by have:=hz.1;omega).mono λz hz _=>by have:=hz.1;omega) ((s2.sa.off m3 λz hz e=>by have:=(lo z hz).1;omega).mono λz hz _=>by have:=(lo z hz).1;omega) ((s3.sa.off m3 λz hz e=>by have:=lo3 z hz;omega).mono λz hz _=>by have:=lo3 z hz;omega) (m3.is_nw (k1.trans k2) λz hz=>U)⟩
def iV (j:Nat):Value:=η ν (j:Int)
theorem Az (G:gS h Fa F g N){Fl:Nat->Prop}(hs:Sz gm Fl h A n K xs) (hK1:cO N xs->∀h',Nw h h'->Q .nilIface h') (hK2:¬cO N xs->∀t u h',Nw h h'->Q (.iface t u) h') :
  WC Tryz.prog 121 [ψ (Y ⟨g,0,ξ⟩),ω A n K] h Q:=by
 have hl:=hs.len;refine rN ⟨λhbig h1 e1=>hK2 (λB=>by have:=B.len;omega) _ _ _ (aj e1).1,λhle=>⟨λh0=>?_,λhn0=>?_⟩⟩
 .obtain rfl:xs = []:=by
   apply List.eq_nil_of_length_eq_zero;omega
  exact hK1 ⟨by simp,by simp,λj i x y _ hx=>by simp at hx⟩ h (Nw.refl _)
 refine JF G λA1 n1 K1 A2 n2 K2 A3 n3 K3 h2 s1 s2 s3 k2=>⟨_,_,_,_,_,_,_,_,_,rfl,λh3 e3=>?_⟩;obtain⟨k3,g3,z3⟩:=aj e3;have k13:=k2.trans k3;refine⟨λm x h4=>∃(i:Nat) (f:eQ->Option Nat),x=i/\i<=n/\m=n - i/\cX qZ h4 h2.next (λy=>(f y).map iV)/\(∀y,(f y).isSome=true↔∃j x,j<i/\xs[j]? = Y x/\fC x=y)/\(∀j x,j<i->xs[j]? = Y x->fW N x)/\(∀j i' x y,j<i'->i' < i->xs[j]? = Y x->xs[i']? = Y y->fC x≠fC y)/\Mt (λz=>z=h2.next) h3 h4,n,
  ⟨0,λ_=>ξ,rfl,Nat.zero_le _,rfl,cX.new g3,λy=>⟨λh=>(by cases h),λ⟨j,x,hj,_⟩=>absurd hj U⟩,λj x hj=>absurd hj U,λj i' x y _ hj=>absurd hj U,Mt.refl _ _⟩,?_⟩
 rintro m x h4 ⟨i,f,rfl,hi,rfl,M4,hf,hok,hone,m4⟩;have z4:=m4.next;have k14:Nw h h4:=m4.is_nw k13 λz hz=>by have:=k2.next;omega
 refine⟨λhlt=>?_,λhge=>?_⟩
 .obtain⟨b',o',x,hA',-,hlb,hx,hc,hn5⟩:=(hs.nw k14).chg (k:=i) U;refine⟨i,rfl,b',o',hA',U,_,_,_,_,_,hn5,λh5 e5=>?_⟩;obtain⟨h6,s6,k6,g6,z6⟩:=aD (vs:=go x) e5 rfl (Ay x);have t6:Sa eH (λz=>h.next<=z/\z<h2.next) h6 A3 n3 K3 N.ts:=(((s3.mono λz hz hl=>(⟨hz,hl⟩:h.next<=z/\z<h2.next)).nw k3).off m4 λz hz e=>U).nw k6;refine⟨h6,s6,_,_,_,_,_,bo (o:=0) (n:=5) g6 (by simp[go]),Gd (G.nw (k14.trans k6)) x t6 λh7 k7=>⟨_,rfl,_,_,_,_,_,bo (o:=0) (n:=5) (k7.bk U g6) (by simp[go]),λh8 e8=>?_⟩⟩;obtain⟨h9,s9,k9,g9,z9⟩:=aD (vs:=go x) e8 rfl (Ay x);obtain⟨h10,s10,g10,z10,o10⟩:=ax (v:=η ν 0) (o:=4) g9 (by simp[go]) rfl;have g10':Bk h10 h7.next (go (fC x)) 160:=g10;have z7:=k7.next;have m10:Mt (λz=>z=h7.next) h9 h10:=⟨U,λz _ hn=>o10 z hn⟩;have m410:Mt (λz=>z=h7.next) h4 h10:=((((Mt.of k6).nw k7).nw k9).then m10);have k410:Nw h4 h10:=m410.is_nw (Nw.refl _) λz hz=>U;have M10:cX qZ h10 h2.next (λy=>(f y).map iV):=M4.keep (m410.get _ U U);have bad:¬cO N xs->∀t u h',Nw h10 h'->Q (.iface t u) h':=λhb t u h' a=>hK2 hb t u h' ((k14.trans k410).trans a);have n10:aB h10 h7.next 0 5=Y (go (fC x)):=bo (o:=0) (n:=5) g10' (by simp[go]);have put:fW N x->(∀j y,j<i->xs[j]? = Y y->fC y≠fC x)->∃h11:AH,ej Tryz.prog h10 (Y (.map 160 3)) (.map (Y h2.next)) (qZ (fC x)) (η ν (i:Int))=Y (undef,h11)/\WR ((i:Int)+1) λx29=>RE (n - i) λm'=>∃(i:Nat) (f:eQ->Option Nat),x29=i/\i<=n/\m' = n - i/\cX qZ h11 h2.next (λy=>(f y).map iV)/\(∀y,(f y).isSome=true↔∃j x,j<i/\xs[j]? = Y x/\fC x=y)/\(∀j x,j<i->xs[j]? = Y x->fW N x)/\(∀j i' x y,j<i'->i' < i->xs[j]? = Y x->xs[i']? = Y y->fC x≠fC y)/\Mt (λz=>z=h2.next) h3 h11:=λhx1 hx2=>by
   obtain⟨h11,y1,y2,y3,y4⟩:=M10.put (e:=3) JE (fC x) (iV i);refine⟨h11,y1,_,iO U,n - (i+1),U,i+1,λy=>if y=fC x then Y i else f y,rfl,U,rfl,?_,λy=>?_,λj y hj hy=>?_,λj i' y y' h1 h2 h3 h4=>?_,m4.trans (⟨U,λz hz hn=>(y4 z hn).trans (m410.get z hz U)⟩:Mt (λz=>z=h2.next) h4 h11) λz hz _=>hz⟩
   .have e:(λy=>if y=fC x then Y (iV i) else(f y).map iV)=λy=>(if y=fC x then Y i else f y).map iV:=by
     funext y
     by_cases h:y=fC x
     .simp[h]
     .simp[h]
    rw[<-e];exact y2
   .by_cases h:y=fC x
    .subst h;simp only[if_pos rfl];exact⟨λ_=>⟨i,x,U,hx,rfl⟩,λ_=>rfl⟩
    .simp only[if_neg h];rw[hf y];constructor
     .rintro⟨j,x',h1,h2,h3⟩;exact⟨j,x',U,h2,h3⟩
     .rintro⟨j,x',h1,h2,h3⟩;by_cases e:j=i
      .subst e;rw[hx]at h2;obtain rfl:=Option.some.inj h2;exact absurd h3.symm h
      .exact⟨j,x',U,h2,h3⟩
   .by_cases e:j=i
    .subst e;rw[hx]at hy;obtain rfl:=Option.some.inj hy;exact hx1
    .exact hok j y U hy
   .by_cases e:i' = i
    .subst e;rw[hx]at h4;obtain rfl:=Option.some.inj h4;exact hx2 j y U h3
    .exact hone j i' y y' h1 U h3 h4
  refine⟨h9,s9,h10,s10,λhw0=>?_,λhw0=>⟨λh=>absurd h hw0,λ_ h12 e12=>bad (λB=>hw0 (ab.wrong_ok.2 (B.ok x (List.mem_of_getElem? hx)))) _ _ _ (aj e12).1⟩⟩;have hx1:=ab.wrong_ok.1 hw0;obtain⟨iz,hiz,hz0⟩:=tB;have hlook:=M10.look (e:=3) JE hiz hz0 (by rfl) (fC x) true;refine⟨_,_,_,_,_,n10,((f (fC x)).map Int.ofNat).getD 0,(f (fC x)).isSome,?_,λhb=>?_,λhb=>⟨λ_=>?_,λh=>absurd hw0 h⟩⟩
  .refine hlook.trans ?_;cases f (fC x) <;>rfl
  .refine⟨λh=>absurd h (by decide),λ_ h12 e12=>bad (λB=>?_) _ _ _ (aj e12).1⟩;obtain⟨j,y,h1,h2,h3⟩:=(hf _).1 hb;exact B.one j i y x h1 h2 hx h3
  .refine⟨_,_,_,_,_,n10,put hx1 λj y hj hy he=>?_⟩;rw[(hf _).2 ⟨j,y,hj,hy,he⟩]at hb;cases hb
 .obtain rfl:i=n:=U;refine hK1 ⟨U,λx hx=>?_,λj i' x y h1 h2 h3=>hone j i' x y h1 (by have:=(List.getElem?_eq_some_iff.1 h3).1;omega) h2 h3⟩ h4 k14;obtain⟨j,hj⟩:=List.getElem?_of_mem hx;exact hok j x (by have:=(List.getElem?_eq_some_iff.1 hj).1;omega) hj
end
end Eva
end
section
open Go Go.RowKit
namespace Eva
theorem Ic {cells:List Value}{f:Nat->List Value}{s:Nat}(hs:0<s) (hf:∀k,(f k).length=s){n:Nat}(hl:cells.length=n*s) (h:∀k,k<n->(cells.drop (k*s)).take s=f k):cells=cN f n:=by
 apply List.ext_getElem?;intro i;by_cases hi:i<n*s
 .have hd:i / s<n:=(Nat.div_lt_iff_lt_mul hs).2 hi;have hm:i % s<s:=Nat.mod_lt _ hs;have he:i=i / s*s+i % s:=by have:=Nat.div_add_mod i s;rw[Nat.mul_comm]at this;omega
  have h1:=h _ hd;have h2:=wW hf hd hm;rw[he,h2,<-h1,List.getElem?_take,if_pos hm,List.getElem?_drop]
 .rw[List.getElem?_eq_none U,List.getElem?_eq_none (by rw[dQ hf];omega)]
section
variable {α:Type}{r:Rc α}{h h':AH}{D:Nat->Prop}{e:TypeId}{A:Option Addr}{n K:Nat}{xs:List α}
theorem ay.elems (o:ay r h D e A n K xs) (hn:0<n) (hr:0<r.size):∃g f,A=Y ⟨g,0,ξ⟩/\D g/\g<h.next/\Bk h g (cN f n) e/\(∀k,(f k).length=r.size)/\(K=cl n\/K=2*n)/\(∀k,k<n->∀u∈f k,flat u=true)/\∀k x,xs[k]? = Y x->r.rel (λb=>D b/\b≠g) h (f k) x:=by
 obtain⟨hl,o⟩:=o;rcases o with⟨_,h1,_⟩ | ⟨g,cells,rfl,h1,h2,h3,h4,h5,h6,h7⟩
 .omega
 .have hcut:∀k,k<n->((cells.drop (k*r.size)).take r.size).length=r.size:=λk hk=>by
   have:(k+1)*r.size<=n*r.size:=Nat.mul_le_mul_right _ hk;rw[Nat.succ_mul]at this;simp;omega
  have hf:∀k,(if k<n then(cells.drop (k*r.size)).take r.size else List.replicate r.size undef).length=r.size:=λk=>by
   split
   .exact hcut k (by assumption)
   .simp
  refine⟨g,λk=>if k<n then(cells.drop (k*r.size)).take r.size else List.replicate r.size undef,rfl,h1,h2,?_,hf,h5,λk hk u hu=>?_,λk x hx=>?_⟩
  .have:cells=cN (λk=>if k<n then(cells.drop (k*r.size)).take r.size else List.replicate r.size undef) n:=Ic hr hf h4 λk hk=>by simp only[if_pos hk]
   rw[<-this];exact h3
  .simp only[if_pos hk]at hu;exact h6 u (List.mem_of_mem_drop (List.mem_of_mem_take hu))
  .have hk:k<n:=by rw[<-hl];exact(List.getElem?_eq_some_iff.1 hx).1
   simp only[if_pos hk];exact h7 k x hx
theorem ay.of_elems {g:Nat}{f:Nat->List Value}(hl:xs.length=n) (h1:D g) (h2:g<h.next) (h3:Bk h g (cN f n) e) (hf:∀k,(f k).length=r.size) (h5:K=cl n\/K=2*n) (h7:∀k x,xs[k]? = Y x->r.rel (λb=>D b/\b≠g) h (f k) x):ay r h D e (Y ⟨g,0,ξ⟩) n K xs:=by
 refine⟨hl,.inr ⟨g,_,rfl,h1,h2,h3,dQ hf n,h5,λu hu=>?_,λk x hx=>?_⟩⟩
 .obtain⟨k,hk,hu⟩:=List.mem_flatMap.1 hu;have hk':k<n:=by simpa using hk
  have hx:xs[k]? = Y (xs[k]' U):=List.getElem?_eq_getElem _;exact r.flat (h7 k _ hx) u hu
 .rw[jp hf n (by rw[<-hl];exact(List.getElem?_eq_some_iff.1 hx).1)];exact h7 k x hx
end
theorem ay.ints {h:AH}{D:Nat->Prop}{e:TypeId}{A:Option Addr}{n K:Nat}{xs:List Int}(o:ay cI h D e A n K xs) (hn:0<n):∃g,A=Y ⟨g,0,ξ⟩/\D g/\g<h.next/\Bk h g (xs.map (Value.int .i64)) e:=by
 obtain⟨hl,o⟩:=o;rcases o with⟨_,h1,_⟩ | ⟨g,cells,rfl,h1,h2,h3,h4,h5,h6,h7⟩
 .omega
 .refine⟨g,rfl,h1,h2,?_⟩;have h4':cells.length=n:=by rw[h4];exact Nat.mul_one n
  have:cells=xs.map (Value.int .i64):=by
   apply List.ext_getElem?;intro i;rw[List.getElem?_map];by_cases hi:i<n
   .have hx:xs[i]? = Y (xs[i]' U):=List.getElem?_eq_getElem _;have hr:(cells.drop (i*1)).take 1 = [Value.int .i64 (xs[i]' U)]:=h7 i _ hx;have hc:cells[i]? = Y (cells[i]' U):=List.getElem?_eq_getElem _;rw[Nat.mul_one,du hc]at hr;rw[hc,hx];simpa using hr
   .rw[List.getElem?_eq_none U,List.getElem?_eq_none U];rfl
  rw[<-this];exact h3
section
variable {h h':AH}{F Fa Ft:Nat->Prop}{Q:Value->AH->Prop}{A:Option Addr}{n K g:Nat}{N:ab}
theorem bV.endsL {M:ab}(S:bV N M) (q:Bool):M.endsL q=N.endsL q:=by unfold ab.endsL;rw[S.nv,S.ends,S.na]
theorem bV.plL {M:ab}(S:bV N M):M.plL=N.plL:=by
 unfold ab.plL;rw[S.na]
 congr 1
 funext a
 rw[S.inPl,S.outPl]
structure jS (h h':AH) (Fa Ft F:Nat->Prop) (g:Nat) (M:ab):Prop where
 gr:∃Fa' Ft' F',rV h' Fa' Ft' F' g M/\(∀z,Fa' z\/Ft' z->Fa z\/Ft z\/h.next<=z)/\∀z,F' z->F z
 mt:Mt (λz=>Fa z\/Ft z) h h'
theorem Lh (X:rV h Fa Ft F g N){a:Nat}(ha:a<N.na){w:Int}(hw:aU w=true) (hK:∀h',jS h h' Fa Ft F g (N.setW a w)->Q .nilIface h') :
  WC Tryz.prog 127 [ψ (Y ⟨g,0,ξ⟩),η ν a,η ν w] h Q:=by
 have hfr:=(ab.fr_lt X.ok ha).2;have hto:=(ab.to_lt X.ok ha).2;have S:=ab.setW_shp (N:=N) a w;have hok:=ab.setW_ok X.ok (a:=a) hw;refine lR (tk X.gr ha ⟨_,rfl,λ_=>jq hw ⟨_,rfl,λ_=>?_,λh=>Bool.noConfusion h⟩,λh=>Bool.noConfusion h⟩);obtain⟨o,⟨a1,a2,a3,a4,a5⟩,⟨b1,b2,b3,b4,b5⟩,⟨c1,c2,c3,c4,c5⟩,⟨d1,d2,d3,d4,d5⟩,⟨e1,e2,e3,e4,e5⟩,⟨f1,f2,f3,f4,f5⟩,ok,fw,dj⟩:=X;have hb2:N.na=b2:=b5.len;obtain⟨gA,f,rfl,hD,hlt,hB,hf,hK2,hfl,hrel⟩:=b5.elems U (by decide);have hNg:gA≠g:=λe=>((dj gA).1 hD).2 (e ▸ o.1);obtain⟨h2,s2,B2,z2,o2⟩:=Ag hB hf (k:=a) U (j:=2) (by decide) (x:=η ν w) rfl;have m2:Mt (λz=>z=gA) h h2:=⟨U,λz _ hn=>o2 z hn⟩;refine⟨g,0,rfl,_,_,_,b4,a,rfl,gA,0,rfl,U,h2,s2,hK h2 ⟨⟨Fa,Ft,F,?_,λz hz=>hz.elim .inl λh=>.inr (.inl h),λz hz=>hz⟩,m2.mono λz hz _=>.inl (hz ▸ hD)⟩⟩;have hg:∀j,ldC h2 g j=ldC h g j:=λj=>bj (o2 g λe=>hNg e.symm) j;have kF:∀{α:Type}{r:Rc α}{A:Option Addr}{n K:Nat}{xs:List α},Sa r F h A n K xs->Sa r F h2 A n K xs:=λs=>s.off m2 λz hz e=>((dj gA).1 hD).2 (e ▸ hz);have hfa:f a = [η ν (N.arc a).1,η ν (N.arc a).2.1,η ν (N.arc a).2.2]:=hrel a _ (ab.arc_get ha);have hen:∀q,(N.setW a w).endsL q=N.endsL q:=bV.endsL S;have hpl:(N.setW a w).plL=N.plL:=bV.plL S;refine⟨⟨o.1,U⟩,⟨a1,a2,a3,(hg _).trans a4,kF a5⟩,⟨_,b2,b3,(hg _).trans b4,ay.of_elems (by rw[<-hb2];exact S.na) hD U B2 (λk=>?_) hK2 λk x hx=>?_⟩,⟨c1,c2,c3,(hg _).trans c4,c5.off m2 λz hz _ e=>((dj gA).1 hD).1 (e ▸ hz)⟩,⟨d1,d2,d3,(hg _).trans d4,by rw[hen];exact kF d5⟩,⟨e1,e2,e3,(hg _).trans e4,by rw[hen];exact kF e5⟩,⟨f1,f2,f3,(hg _).trans f4,by rw[hpl];exact kF f5⟩,hok,by rw[S.nv,S.na];exact fw,dj⟩
 .unfold upd
  split
  .simp[hf]
  .exact hf k
 .show aS.rel _ h2 (upd f a ((f a).set 2 (η ν w)) k) x;have hx':(N.xa.set a ((N.arc a).1,(N.arc a).2.1,w))[k]? = Y x:=hx;rw[List.getElem?_set]at hx';unfold upd;by_cases e:k=a
  .subst e;rw[if_pos rfl,if_pos (by exact ha)]at hx';obtain rfl:=Option.some.inj hx';rw[if_pos rfl,hfa];rfl
  .rw[if_neg (λh=>e h.symm)]at hx';rw[if_neg e];exact hrel k x hx'
end
end Eva
end
section
open Go Go.RowKit
namespace Eva
section
variable {h h':AH}{F Fa Ft:Nat->Prop}{Q:Value->AH->Prop}{A:Option Addr}{n K g:Nat}{N:ab}
theorem JG {ins outs:Int}{costs:List Int}(hs:Sa cI F h A n K costs) (hok:dM ins outs costs){i o:Nat}(hi:(i:Int)<ins) (ho:(o:Int)<outs){c:Int}(hc:aU c=true)
  (hK:∀A' K' h',Sa cI (λz=>h.next<=z) h' A' n K' (costs.set (i*outs.toNat+o) c)->Nw h h'->Q (.tuple #[.agg #[η ν ins,η ν outs,ω A' n K'],.nilIface]) h') :
  WC Tryz.prog 202 [.agg #[η ν ins,η ν outs,ω A n K],η ν i,η ν o,η ν c] h Q:=by
 have hlen:=hs.len;have h16:=hok.ins_;have h17:=hok.outs_;have hcl:=hok.len;obtain⟨ins,rfl⟩:=Int.eq_ofNat_of_zero_le h16.1;obtain⟨outs,rfl⟩:=Int.eq_ofNat_of_zero_le h17.1;have hio:i*outs+o<ins*outs:=qH U U;have hn:n=ins*outs:=by
  have h3:((costs.length:Nat):Int)=((ins*outs:Nat):Int):=by rw[hcl];simp
  omega
 have hmul:ins*outs<=16*16:=Nat.mul_le_mul U U;have hmul2:i*outs<=16*16:=Nat.mul_le_mul U U;obtain⟨t,ht⟩:∃t,i*outs=t:=⟨_,rfl⟩;rw[ht]at hio hmul2;refine wA λh1 e1 h2 e2=>?_;obtain⟨k1,g1,z1⟩:=aj e1;obtain⟨k2,g2,z2⟩:=aj e2;have k12:=k1.trans k2;have b1:∀{h'},Nw h2 h'->Bk h' h.next [η ν (ins:Int),η ν (outs:Int),ω A n K] 248:=λa=>a.bk U (k2.bk U g1);have q:∀{h'}(a:Nw h2 h'){j v},[Value.int .i64 (ins:Int),η ν (outs:Int),ω A n K][j]? = Y v->ldC h' h.next j=Y v:=fun {h'} a {j v} hj=>aa (b1 a) hj;refine⟨λh=>absurd h U,λ_=>⟨_,q (Nw.refl _) (j:=0) rfl,λh=>absurd h U,λ_=>⟨λh=>absurd h U,λ_=>⟨_,q (Nw.refl _) (j:=1) rfl,λh=>absurd h U,λ_=>jq hc ⟨_,rfl,λ_=>⟨_,_,_,_,_,bi (q (Nw.refl _) (j:=0) rfl) (q (Nw.refl _) (j:=1) rfl) (q (Nw.refl _) (j:=2) rfl),qS (hs.z.nw k12) hok λh12 k3=>⟨ξ,rfl,λ_=>⟨_,_,_,q k3 (j:=2) rfl,wX (hs.nw (k12.trans k3)) U λA8 K8 h13 o8 k8 lo8=>⟨_,_,_,rfl,?_⟩⟩,λt u h=>by cases h⟩⟩,λh=>Bool.noConfusion h⟩⟩⟩⟩⟩;have z12:=k3.next;have z13:=k8.next;obtain⟨g8,rfl,d8,l8,B8⟩:=o8.ints U;have lg8:=lo8 _ d8;obtain⟨h14,s14,B14,z14,o14⟩:=ax (v:=ω (Y ⟨g8,0,ξ⟩) n K8) (o:=2) (b1 (k3.trans k8)) (by simp) rfl;have B14':Bk h14 h.next [η ν (ins:Int),η ν (outs:Int),ω (Y ⟨g8,0,ξ⟩) n K8] 248:=B14;have B8':=(o14 g8 U).trans B8;obtain⟨h15,s15,B15,z15,o15⟩:=ax (v:=η ν c) (o:=0+(t+o)) B8' (by rw[List.length_map];omega) rfl;have B15':Bk h15 h.next [η ν (ins:Int),η ν (outs:Int),ω (Y ⟨g8,0,ξ⟩) n K8] 248:=(o15 _ U).trans B14';obtain⟨h16,s16,B16,z16,o16⟩:=dh (vs:=[η ν (ins:Int),η ν (outs:Int),ω (Y ⟨g8,0,ξ⟩) n K8]) ((o15 _ U).trans ((o14 _ U).trans ((k3.trans k8).bk U g2))) rfl (eR rfl rfl rfl);have w1:IntKind.i64.wrap ((i:Int)*(outs:Int))=(t:Int):=by
  rw[<-Int.natCast_mul,ht];exact ae U U
 have w2:IntKind.i64.wrap ((t:Int)+(o:Int))=((t+o:Nat):Int):=by rw[Int.natCast_add];exact ae U U
 refine⟨h14,s14,_,_,_,aa B14' rfl,_,aa B14' rfl,_,w1,_,w2,t+o,rfl,g8,0,rfl,U,h15,s15,_,_,_,_,_,bi (aa B15' rfl) (aa B15' rfl) (aa B15' rfl),h16,s16,_,_,_,_,_,bi (aa B16 rfl) (aa B16 rfl) (aa B16 rfl),hK _ _ h16 ?_ ?_⟩
 .have e:(costs.map (Value.int .i64)).set (0+(t+o)) (η ν c)=(costs.set (i*(outs:Int).toNat+o) c).map (Value.int .i64):=by
   rw[List.map_set,Int.toNat_natCast,ht,Nat.zero_add]
  refine Sa.of_ints (e:=2) (f:=false) ?_ (by rw[List.length_set];exact hlen) U U;have:=(o16 g8 U).trans B15
  rwa [e]at this
 .exact⟨U,λz hz=>(o16 z U).trans ((o15 z U).trans ((o14 z U).trans (((k12.trans k3).trans k8).get z hz)))⟩
theorem JH (X0:rV h Fa Ft F g N){t i o:Nat}(ht:t<N.ts.length) (hi:(i:Int)<(N.tb t).1) (ho:(o:Int)<(N.tb t).2.1){c:Int}(hc:aU c=true) (hK:∀h',jS h h' Fa Ft F g (N.bend t i o c)->Q .nilIface h') :
  WC Tryz.prog 128 [ψ (Y ⟨g,0,ξ⟩),η ν t,η ν i,η ν o,η ν c] h Q:=by
 have X:=X0.lt;have S:=ab.bend_shp (N:=N) t i o c;have hok:=ab.bend_ok X.ok (t:=t) (i:=i) (o:=o) ht hc;have htk:=ab.tb_ok X.ok ht;obtain⟨⟨o1,o2⟩,⟨a1,a2,a3,a4,a5⟩,⟨b1,b2,b3,b4,b5⟩,⟨c1,c2,c3,c4,c5⟩,⟨d1,d2,d3,d4,d5⟩,⟨y1,y2,y3,y4,y5⟩,⟨f1,f2,f3,f4,f5⟩,ok,fw,dj⟩:=X;have hnt:=ok.nt;have hc2:N.ts.length=c2:=c5.len;obtain⟨gT,f,rfl,hD,hlt,hB,hf,hK2,hfl,hrel⟩:=c5.elems U (by decide);have htt:N.ts[t]? = Y (N.tb t):=by simp[ab.tb,List.getElem?_eq_getElem ht]
 obtain⟨A',n',K',hft,hs⟩:=hrel t _ htt;have hld:∀j u,(f t)[j]? = Y u->ldC h gT (0+t*3+j)=Y u:=λj u hj=>by
  have hj3:j<3:=by have:=(List.getElem?_eq_some_iff.1 hj).1;rw[hf]at this;exact this
  rw[aJ hB,Nat.zero_add,wW (s:=3) hf U hj3,hj]
 have hl3:aB h gT (0+t*3) 3=Y [η ν (N.tb t).1,η ν (N.tb t).2.1,ω A' n' K']:=bi (hld 0 _ (by rw[hft];rfl)) (hld 1 _ (by rw[hft];rfl)) (hld 2 _ (by rw[hft];rfl));refine kH ⟨λh=>absurd h U,λ_=>⟨g,0,rfl,_,_,_,c4,λh=>absurd h U,λ_=>⟨_,_,_,c4,t,rfl,gT,0,rfl,U,_,_,_,_,_,hl3,JG hs htk hi ho hc λA4 K4 h3 s3 k3=>⟨_,_,_,_,_,ξ,rfl,λh4 e4=>?_⟩⟩⟩⟩;obtain⟨h5,s5,k5,g5,z5⟩:=aD (vs:=[η ν (N.tb t).1,η ν (N.tb t).2.1,ω A4 n' K4]) e4 rfl (eR rfl rfl rfl);have k35:=k3.trans k5;have z3:=k3.next;obtain⟨h6,s6,B6,z6,o6⟩:=yS (k35.bk hlt hB) hf (k:=t) U (v:=[η ν (N.tb t).1,η ν (N.tb t).2.1,ω A4 n' K4]) rfl (eR rfl rfl rfl);have m6:Mt (λz=>z=gT) h5 h6:=⟨U,λz _ hn=>o6 z hn⟩;have m:Mt (λz=>z=gT) h h6:=(Mt.of k35).then m6;have hNg:gT≠g:=λe=>(dj gT).2 hD (e ▸ o1);have hg:∀{h'} j,Nw h h'->ldC h' g j=ldC h g j:=λj a=>a.ldC o2 j;have hg6:∀j,ldC h6 g j=ldC h g j:=λj=>bj (m.get g o2 λe=>hNg e.symm) j;have kF:∀{α:Type}{r:Rc α}{A:Option Addr}{n K:Nat}{xs:List α},Sa r (λz=>F z/\z<h.next) h A n K xs->Sa r (λz=>F z/\z<h.next) h6 A n K xs:=λs=>s.off m λz hz e=>(dj gT).2 hD (e ▸ hz);refine⟨h5,s5,λ_=>⟨_,_,_,(hg 2 k35).trans c4,_,_,_,_,_,bi (aa g5 rfl) (aa g5 rfl) (aa g5 rfl),gT,0,rfl,U,h6,s6,hK h6 ⟨⟨λz=>Fa z/\z<h.next,λz=>(Ft z/\z<h.next)\/h.next<=z,λz=>F z/\z<h.next,?_,λz hz=>?_,λz hz=>hz.1⟩,m.mono λz hz _=>.inr (hz ▸ hD.1)⟩⟩,λt u h=>by cases h⟩
 .refine⟨⟨o1,by have:=m.next;omega⟩,⟨a1,a2,a3,(hg6 _).trans a4,kF a5⟩,⟨b1,b2,b3,(hg6 _).trans b4,b5.off m λz hz _ e=>((dj z).1 hz).1 (e ▸ hD)⟩,⟨_,c2,c3,(hg6 _).trans c4,ay.of_elems (by rw[<-hc2];exact S.nt) (.inl hD) (by have:=m.next;omega) B6 (λk=>?_) hK2 λk x hx=>?_⟩,⟨d1,d2,d3,(hg6 _).trans d4,by rw[bV.endsL S];exact kF d5⟩,⟨y1,y2,y3,(hg6 _).trans y4,by rw[bV.endsL S];exact kF y5⟩,⟨f1,f2,f3,(hg6 _).trans f4,by rw[bV.plL S];exact kF f5⟩,hok,by rw[S.nv,S.na];exact fw,λz=>⟨λhz=>⟨λhd=>hd.elim ((dj z).1 hz).1 λhd=>by have:=hz.2;omega,((dj z).1 hz).2⟩,λhd hz=>hd.elim (λhd=>(dj z).2 hd hz) λhd=>by have:=hz.2;omega⟩⟩
  .unfold upd
   split
   .rfl
   .exact hf k
  .have hx':(N.ts.set t (BQ (N.tb t) i o c))[k]? = Y x:=hx;rw[List.getElem?_set]at hx';unfold upd;by_cases e:k=t
   .subst e;rw[if_pos rfl,if_pos ht]at hx';obtain rfl:=Option.some.inj hx';rw[if_pos rfl];exact⟨A4,n',K4,rfl,((s3.nw k5).off m6 λz hz e=>U).mono λz hz _=>⟨.inr hz,U⟩⟩
   .rw[if_neg (λh=>e h.symm)]at hx';rw[if_neg e];exact eH.mono (λz hz _=>⟨.inl hz.1,hz.2⟩) (eH.keep (λz hz hl=>m.get z hl hz.2) m.next (hrel k x hx'))
 .rcases hz with hz | hz | hz
  .exact .inl hz.1
  .exact .inr (.inl hz.1)
  .exact .inr (.inr hz)
end
end Eva
end
section
open Go Go.RowKit
namespace Eva
section
variable {h h' h2 h3:AH}{F Fa Ft:Nat->Prop}{Q:Value->AH->Prop}{A:Option Addr}{n K g:Nat}{N M M':ab}{xs:List eQ}
theorem jS.refl (X:rV h Fa Ft F g N):jS h h Fa Ft F g N:=⟨⟨Fa,Ft,F,X,λz hz=>hz.elim .inl λh=>.inr (.inl h),λz hz=>hz⟩,Mt.refl _ _⟩
theorem jS.nw (T:jS h h2 Fa Ft F g M) (a:Nw h2 h3):jS h h3 Fa Ft F g M:=by
 obtain⟨⟨Fa',Ft',F',X,c1,c2⟩,m⟩:=T;exact⟨⟨Fa',Ft',F',X.nw a,c1,c2⟩,m.nw a⟩
theorem jS.step (T:jS h h2 Fa Ft F g M){P:Prop}(hK:(∀Fa' Ft' F',rV h2 Fa' Ft' F' g M->(∀h3 M',jS h2 h3 Fa' Ft' F' g M'->jS h h3 Fa Ft F g M')->P)):P:=by
 obtain⟨⟨Fa',Ft',F',X,c1,c2⟩,m⟩:=T;refine hK Fa' Ft' F' X λh3 M' T2=>?_;obtain⟨⟨Fa'',Ft'',F'',X2,d1,d2⟩,m2⟩:=T2;have hn:=m.next;refine⟨⟨Fa'',Ft'',F'',X2,λz hz=>?_,λz hz=>c2 z (d2 z hz)⟩,m.trans m2 λz hz hl=>?_⟩
 .rcases d1 z hz with h | h | h
  .exact c1 z (.inl h)
  .exact c1 z (.inr h)
  .exact .inr (.inr U)
 .rcases c1 z hz with h | h | h
  .exact .inl h
  .exact .inr h
  .omega
theorem Id (X:rV h Fa Ft F g N){Fl:Nat->Prop}(hs:Sz gm Fl h A n K xs) (hFl:∀z,Fl z->¬Fa z/\¬Ft z) (B:cO N xs) (hK:∀h',jS h h' Fa Ft F g (N.doL xs)->Q .nilIface h') :
  WC Tryz.prog 57 [ψ (Y ⟨g,0,ξ⟩),ω A n K] h Q:=by
 have hl:=hs.len;have hn:=B.len;refine rO (Az X.gr hs (λ_ h1 k1=>⟨ξ,rfl,λ_=>?_,λt u h=>by cases h⟩) λhno=>absurd B hno);refine⟨λm x h2=>∃i:Nat,x=i/\i<=n/\m=n - i/\jS h h2 Fa Ft F g (N.doL (xs.take i)),n,⟨0,rfl,Nat.zero_le _,rfl,(jS.refl X).nw k1⟩,?_⟩;rintro m x h2 ⟨i,rfl,hi,rfl,T⟩;refine⟨λhlt=>?_,λhge=>?_⟩
 .obtain⟨b',o',x,hA',-,hlb,hx,hc,hn5⟩:=(hs.off T.mt λz hz hs=>hs.elim (hFl z hz).1 (hFl z hz).2).chg (k:=i) U;refine⟨i,rfl,b',o',hA',U,_,_,_,_,_,hn5,λh3 e3=>?_⟩;obtain⟨h4,s4,k4,g4,z4⟩:=aD (vs:=go x) e3 rfl (Ay x);have S:=ab.doL_shp (xs.take i) (N:=N);have hxo:=(B.ok x (List.mem_of_getElem? hx)).shp S;have htk:xs.take (i+1)=xs.take i ++ [x]:=by rw[List.take_add_one,hx];rfl
  have fin:∀h5,jS h h5 Fa Ft F g ((N.doL (xs.take i)).do1 x)->WR ((i:Int)+1) λx10=>RE (n - i) λm'=>∃i:Nat,x10=i/\i<=n/\m' = n - i/\jS h h5 Fa Ft F g (N.doL (xs.take i)):=λh5 T5=>
   ⟨_,iO U,n - (i+1),U,i+1,rfl,U,rfl,by rw[htk,ab.doL_snoc];exact T5⟩
  obtain⟨kd,at_,ci,co,w⟩:=x;refine⟨h4,s4,kd,aa g4 rfl,λc1=>⟨at_,aa g4 rfl,w,aa g4 rfl,?_⟩,λc1=>⟨λc2=>⟨at_,aa g4 rfl,ci,aa g4 rfl,co,aa g4 rfl,w,aa g4 rfl,?_⟩,λc2=>?_⟩⟩
  .subst c1;obtain⟨hw,⟨-,a1,a2,-,-⟩ | ⟨h1,-⟩⟩:=hxo
   .obtain⟨a,rfl⟩:=Int.eq_ofNat_of_zero_le a1;refine(T.nw k4).step λFa' Ft' F' X4 st=>Lh X4 (a:=a) (by exact Int.ofNat_lt.1 a2) hw λh5 T5=>⟨ξ,rfl,λ_=>fin h5 (st h5 _ ?_),λt u h=>by cases h⟩;exact T5
   .simp at h1
  .subst c2;obtain⟨hw,⟨h1,-⟩ | ⟨-,⟨a1,a2⟩,⟨a3,a4⟩,a5,a6⟩⟩:=hxo
   .simp at h1
   .simp only at a1 a2 a3 a4 a5 a6;obtain⟨a,rfl⟩:=Int.eq_ofNat_of_zero_le a1;obtain⟨b,rfl⟩:=Int.eq_ofNat_of_zero_le a3;obtain⟨c,rfl⟩:=Int.eq_ofNat_of_zero_le a5;refine(T.nw k4).step λFa' Ft' F' X4 st=>JH X4 (t:=a) (i:=b) (o:=c) (by exact Int.ofNat_lt.1 a2) (by exact a4) (by exact a6) hw λh5 T5=>⟨ξ,rfl,λ_=>fin h5 (st h5 _ ?_),λt u h=>by cases h⟩;exact T5
  .exfalso;rcases hxo.is with⟨h1,-⟩ | ⟨h1,-⟩
   .exact c1 h1
   .exact c2 h1
 .obtain rfl:i=n:=U;have:xs.take i=xs:=List.take_of_length_le U;rw[this]at T;exact hK h2 T
end
end Eva
end
section
open Go Go.RowKit
theorem AA {nv:Nat}{p:List (List Int)}(hp:aP nv p){k v:Nat}{row:List Int}{x:Int}(hr:p[k]? = Y row) (hx:row[v]? = Y x):x=(aG p (k+1) v:Int):=by
 have:=(hp.inr _ (List.mem_of_getElem? hr) x (List.mem_of_getElem? hx)).1;unfold aG;rw[Nat.add_sub_cancel,hr,Option.getD_some,hx,Option.getD_some];omega
namespace Eva
def kg (np:Nat) (B:Nat->Nat) (R:Nat->List Bool):List Value:=(List.range np).map λi=>ω (Y ⟨B i,0,ξ⟩) (R i).length (cx (R i).length)
structure mM (base:Nat) (h:AH) (T np:Nat) (B:Nat->Nat) (R:Nat->List Bool):Prop where
 top:Bk h T (kg np B R) 157
 row:∀i,i<np->Bk h (B i) ((R i).map Value.bool) 4
 one:∀i j,i<np->j<np->B i=B j->i=j
 apart:∀i,i<np->B i≠T
 lo:base<=T/\∀i,i<np->base<=B i
 lt:T<h.next/\∀i,i<np->B i<h.next
section
variable {base:Nat}{h h':AH}{F:Nat->Prop}{Q:Value->AH->Prop}{A:Option Addr}{n K T np:Nat}{B:Nat->Nat}{R:Nat->List Bool}{p:List (List Int)}
theorem mM.keep (M:mM base h T np B R) (hk:∀z,base<=z->z<h.next->h'.get z=h.get z) (hn:h.next<=h'.next):mM base h' T np B R:=
 ⟨(hk T M.lo.1 M.lt.1).trans M.top,λi hi=>(hk _ (M.lo.2 i hi) (M.lt.2 i hi)).trans (M.row i hi),M.one,M.apart,M.lo,by have:=M.lt.1;omega,λi hi=>by have:=M.lt.2 i hi;omega⟩
theorem mM.nw (M:mM base h T np B R) (a:Nw h h'):mM base h' T np B R:=M.keep (λz _ hz=>a.get z hz) a.next
theorem mM.off (M:mM base h T np B R){S:Nat->Prop}(m:Mt S h h') (hS:∀z,S z->z=T\/(∃i,i<np/\z=B i)->False):mM base h' T np B R:=
 ⟨(m.get T M.lt.1 λhs=>hS T hs (.inl rfl)).trans M.top,λi hi=>(m.get _ (M.lt.2 i hi) λhs=>hS _ hs (.inr ⟨i,hi,rfl⟩)).trans (M.row i hi),M.one,M.apart,M.lo,by have:=M.lt.1;have:=m.next;omega,λi hi=>by have:=M.lt.2 i hi;have:=m.next;omega⟩
theorem mM.at_ (M:mM base h T np B R){i:Nat}(hi:i<np):ldC h T (0+i)=Y (ω (Y ⟨B i,0,ξ⟩) (R i).length (cx (R i).length)):=by
 refine aa M.top ?_;rw[Nat.zero_add];simp[kg,hi]
theorem Cb {l:List Bool}{k:Nat}{b:Bool}:(l.map Value.bool).set k (.bool b)=(l.set k b).map Value.bool:=by rw[List.map_set]
theorem mM.put (M:mM base h T np B R){i c:Nat}(hi:i<np) (hc:c<(R i).length):∃h2,j0 h (B i) (0+c) [.bool true]=Y h2/\mM base h2 T np B (upd R i ((R i).set c true))/\Mt (λz=>∃i,i<np/\z=B i) h h2:=by
 obtain⟨h2,s2,B2,z2,o2⟩:=ax (v:=.bool true) (o:=0+c) (M.row i hi) (by rw[List.length_map];omega) rfl;rw[Nat.zero_add,Cb]at B2;have hl:∀j,(upd R i ((R i).set c true) j).length=(R j).length:=λj=>by
  unfold upd
  split
  .rename_i e;rw[List.length_set,e]
  .rfl
 refine⟨h2,s2,⟨?_,λj hj=>?_,M.one,M.apart,M.lo,by have:=M.lt.1;omega,λj hj=>by have:=M.lt.2 j hj;omega⟩,U,λz _ hn=>o2 z λe=>hn ⟨i,hi,e⟩⟩
 .have:kg np B (upd R i ((R i).set c true))=kg np B R:=by
   unfold kg
   congr 1
   funext j
   rw[hl]
  rw[this];exact(o2 T λe=>M.apart i hi e.symm).trans M.top
 .unfold upd;by_cases e:j=i
  .subst e;rw[if_pos rfl];exact B2
  .rw[if_neg e];exact(o2 _ λh=>e (M.one j i hj hi h)).trans (M.row j hj)
def cj (p:List (List Int)) (a b i:Nat) (r:List Bool):List Bool:=if aG p (i+1) a=aG p (i+1) b then r.set (aG p (i+1) a) true else r
theorem ra (p:List (List Int)) (a b i:Nat) (r:List Bool):(cj p a b i r).length=r.length:=by unfold cj;split <;>simp
theorem Hc (M:mM base h T np B R){nv:Nat}(hp:aP nv p) (hs:Sa aM F h A np K p) (hF:∀z,F z->∀i,i<np->z≠B i) (hR:∀i,i<np->(R i).length=au p (i+1)) (hnp:np<=1000){a b:Nat}(ha:a<nv) (hb:b<nv)
  (hK:∀h',mM base h' T np B (λi=>cj p a b i (R i))->Mt (λz=>∃i,i<np/\z=B i) h h'->Q (.tuple #[]) h') :
  WC Tryz.prog 123 [ω (Y ⟨T,0,ξ⟩) np (cx np),ω A np K,η ν a,η ν b] h Q:=by
 have hl:=hs.len;refine uH ⟨λm x h1=>∃k:Nat,x=k/\k<=np/\m=np - k/\mM base h1 T np B (λi=>if i<k then cj p a b i (R i) else R i)/\Mt (λz=>∃i,i<np/\z=B i) h h1,np,⟨0,rfl,Nat.zero_le _,rfl,by simpa using M,Mt.refl _ _⟩,?_⟩;rintro m x h1 ⟨k,rfl,hk,rfl,M1,m1⟩;refine⟨λhlt=>?_,λhge=>?_⟩
 .have hk':k<np:=U;obtain⟨b1,o1,A',n',K',row,hA,-,-,hrow,l1,sr⟩:=(hs.off m1 λz hz ⟨i,hi,e⟩=>hF z hz i hi e).row hk';have hrl:=hp.rows _ (List.mem_of_getElem? hrow);have hn':n' = nv:=by rw[<-sr.len];exact hrl
  have next:∀h2,mM base h2 T np B (λi=>if i<k+1 then cj p a b i (R i) else R i)->Mt (λz=>∃i,i<np/\z=B i) h1 h2->WR ((k:Int)+1) λx4=>RE (np - k) λm'=>∃k:Nat,x4=k/\k<=np/\m' = np - k/\mM base h2 T np B (λi=>if i<k then cj p a b i (R i) else R i)/\Mt (λz=>∃i,i<np/\z=B i) h h2:=λh2 M2 m2=>
   ⟨_,iO U,np - (k+1),U,k+1,rfl,U,rfl,M2,m1.then m2⟩
  have eqR:∀r,(r=cj p a b k (R k))->upd (λi=>if i<k then cj p a b i (R i) else R i) k r=λi=>if i<k+1 then cj p a b i (R i) else R i:=λr hr=>by
   funext i
   unfold upd;by_cases e:i=k
   .subst e;simp[hr]
   .rw[if_neg e];show(if i<k then cj p a b i (R i) else R i)=_;by_cases h:i<k
    .rw[if_pos h,if_pos U]
    .rw[if_neg h,if_neg U]
  obtain⟨ba,oa,xa,hAa,-,-,hxa,la⟩:=sr.int (k:=a) U;obtain⟨bb,ob,xb,hAb,-,-,hxb,lb⟩:=sr.int (k:=b) U;have hxa':=AA hp hrow hxa;have hxb':=AA hp hrow hxb;have e1:Y (⟨ba,oa,ξ⟩:Addr)=Y ⟨bb,ob,ξ⟩:=hAa.symm.trans hAb;obtain⟨rfl,rfl⟩:ba=bb/\oa=ob:=by simpa using e1
  have hcm:=fu hp (k:=k+1) U U ha;have hk1:(λi=>if i<k then cj p a b i (R i) else R i) k=R k:=by simp
  have at1:=M1.at_ hk';simp only[Nat.lt_irrefl,if_false]at at1;refine⟨k,rfl,b1,o1,hA,hk',A',n',K',l1,λh=>absurd h U,λ_=>⟨λh=>absurd h U,λ_=>⟨λh=>absurd h U,λ_=>⟨λh=>absurd h U,λ_=>⟨λh=>absurd h U,λ_=>⟨a,rfl,ba,oa,hAa,U,xa,la,b,rfl,U,xb,lb,λheq=>⟨λh0=>⟨T,0,rfl,hk',_,_,_,at1,λhlt2=>⟨hk',_,_,_,at1,aG p (k+1) a,hxa',B k,0,rfl,by rw[hR k hk'];exact hcm,?_⟩,λh=>absurd hcm (by rw[hR k hk']at h;omega)⟩,λh=>absurd h U⟩,λhne=>next h1 ?_ (Mt.refl _ _)⟩⟩⟩⟩⟩⟩
  .obtain⟨h2,s2,M2,m2⟩:=M1.put hk' (c:=aG p (k+1) a) (by simp only[Nat.lt_irrefl,if_false];rw[hR k hk'];exact hcm);rw[eqR _ (by simp only[Nat.lt_irrefl,if_false];unfold cj;rw[if_pos U])]at M2;exact⟨h2,s2,next h2 M2 m2⟩
  .have:(λi=>if i<k+1 then cj p a b i (R i) else R i)=λi=>if i<k then cj p a b i (R i) else R i:=by
    rw[<-eqR (R k) (by unfold cj;rw[if_neg U])]
    funext i
    unfold upd;by_cases e:i=k
    .subst e;simp
    .rw[if_neg e]
   rw[this];exact M1
 .obtain rfl:k=np:=U;refine hK h1 (M1.keep (λ_ _ _=>rfl) (Nat.le_refl _) |> λM=>?_) m1;refine⟨?_,λi hi=>?_,M.one,M.apart,M.lo,M.lt⟩
  .have:=M.top;have e:kg k B (λi=>if i<k then cj p a b i (R i) else R i)=kg k B (λi=>cj p a b i (R i)):=by
    unfold kg;apply List.map_congr_left;intro i hi;have:i<k:=by simpa using hi
    simp[this]
   rwa [e]at this
  .have:=M.row i hi;simp only[if_pos hi]at this;exact this
end
end Eva
end
section
open Go Go.RowKit
namespace Eva
theorem re {p:List (List Int)}{a b j c:Nat}{r:List Bool}:(cj p a b j r)[c]? = Y true↔r[c]? = Y true\/(aG p (j+1) a=aG p (j+1) b/\c=aG p (j+1) a/\c<r.length):=by
 unfold cj
 split
 .rename_i e;rw[List.getElem?_set];by_cases h:aG p (j+1) a=c
  .rw[if_pos h];by_cases hl:aG p (j+1) a<r.length
   .rw[if_pos hl];exact⟨λ_=>.inr ⟨e,h.symm,U⟩,λ_=>rfl⟩
   .rw[if_neg hl];constructor
    .intro h;cases h
    .rintro(h1 | ⟨_,_,h3⟩)
     .have:=(List.getElem?_eq_some_iff.1 h1).1;omega
     .omega
  .rw[if_neg h];exact⟨.inl,λhh=>hh.elim id λ⟨_,h2,_⟩=>absurd h2.symm h⟩
 .rename_i e;exact⟨.inl,λhh=>hh.elim id λ⟨h1,_⟩=>absurd h1 e⟩
section
variable {h h':AH}{F Fa Fo:Nat->Prop}{Q:Value->AH->Prop}{A:Option Addr}{n K g o:Nat}{N:ab}{p:List (List Int)}{xs:List eQ}
def vg (N:ab) (p:List (List Int)) (xs:List eQ) (i:Nat) (R:Nat->List Bool):Prop:=
 (∀j,j<p.length->(R j).length=au p (j+1))/\∀j c,j<p.length->((R j)[c]? = Y true↔c<au p (j+1)/\∃q x,q<i/\xs[q]? = Y x/\FP N p (j+1) c x)
theorem vg.next {i:Nat}{R R':Nat->List Bool}{x:eQ}(M:vg N p xs i R) (hx:xs[i]? = Y x) (hl:∀j,j<p.length->(R' j).length=(R j).length) (h:∀j c,j<p.length->c<au p (j+1)->((R' j)[c]? = Y true↔(R j)[c]? = Y true\/FP N p (j+1) c x)):vg N p xs (i+1) R':=by
 refine⟨λj hj=>(hl j hj).trans (M.1 j hj),λj c hj=>?_⟩;have hlen:(R' j).length=au p (j+1):=(hl j hj).trans (M.1 j hj);constructor
 .intro h1;have hc:c<au p (j+1):=by rw[<-hlen];exact(List.getElem?_eq_some_iff.1 h1).1
  refine⟨hc,?_⟩;rcases(h j c hj hc).1 h1 with h2 | h2
  .obtain⟨_,q,y,h3,h4,h5⟩:=(M.2 j c hj).1 h2;exact⟨q,y,U,h4,h5⟩
  .exact⟨i,x,U,hx,h2⟩
 .rintro⟨hc,q,y,h3,h4,h5⟩;refine(h j c hj hc).2 ?_;by_cases e:q=i
  .subst e;rw[hx]at h4;obtain rfl:=Option.some.inj h4;exact .inr h5
  .exact .inl ((M.2 j c hj).2 ⟨hc,q,y,U,h4,h5⟩)
theorem Ev (G:gS h Fa F g N) (O:fE h Fo o N p){Fl:Nat->Prop}(hs:Sz gm Fl h A n K xs) (hK1:cO N xs->∀T B R h',mM h.next h' T p.length B R->vg N p xs n R->Nw h h'->Q (.tuple #[ω (Y ⟨T,0,ξ⟩) p.length (cx p.length),.nilIface]) h')
  (hK2:¬cO N xs->∀t u h',Nw h h'->Q (.tuple #[ω ξ 0 0,.iface t u]) h') :
  WC Tryz.prog 56 [ψ (Y ⟨g,0,ξ⟩),ψ (Y ⟨o,0,ξ⟩),ω A n K] h Q:=by
 have hl:=hs.len;have hp:=O.hp;have hnp:=hp.few;have hok:=O.ok;have hnfew:=O.nfew;have hmost:∀k,1<=k->k<=p.length->au p k<=N.nv:=λk h1 h2=>by
  obtain⟨row,hr⟩:∃row,p[k - 1]? = Y row:=⟨_,List.getElem?_eq_getElem U⟩;have h2:=gU hr;have h3:=dq (row:=row) (n:=(N.nv:Int)) U (λx hx=>(hp.inr _ (List.mem_of_getElem? hr) x hx).2);omega
 refine pg (Az G hs (λB h1 k1=>⟨ξ,rfl,λ_=>?_,λt u h=>by cases h⟩) λhno t u h1 k1=>⟨Y (t,u),rfl,λh=>(by cases h),λt' u' e=>by cases e;exact hK2 hno t u h1 k1⟩);have hn:=B.len;refine Ad (O.nw k1) ⟨_,rfl,p.length,rfl,U,λh3 e3=>?_⟩;obtain⟨k3,g3,z3⟩:=aj e3;rw[aQ]at g3;have k13:=k1.trans k3;obtain⟨T,hT⟩:∃T,h1.next=T:=⟨_,rfl⟩;have z1:=k1.next;rw[hT]at g3 z3;rw[hT];refine⟨λm x h4=>∃(i:Nat) (B:Nat->Nat),x=i/\i<=p.length/\m=p.length - i/\Bk h4 T ((List.range p.length).map λj=>if j<i then ω (Y ⟨B j,0,ξ⟩) (au p (j+1)) (cx (au p (j+1))) else ω ξ 0 0) 157/\(∀j,j<i->Bk h4 (B j) (List.replicate (au p (j+1)) (.bool false)) 4/\T<B j/\B j<h4.next)/\(∀j j',j<i->j' < i->B j=B j'->j=j')/\Nw h h4/\T<h4.next,p.length,
  ⟨0,λ_=>0,rfl,Nat.zero_le _,rfl,?_,λj hj=>absurd hj U,λj j' hj=>absurd hj U,k13,U⟩,?_⟩
 .have e:(List.range p.length).map (λj=>if j<0 then Value.slice (Y ⟨(λ_=>0:Nat->Nat) j,0,ξ⟩) (au p (j+1)) (cx (au p (j+1))) else ω ξ 0 0)=List.replicate p.length (ω ξ 0 0):=by
   simp[List.map_const']
  rw[e];exact g3
 rintro m x h4 ⟨i,Bf,rfl,hi,rfl,b4,r4,d4,k4,lt4⟩;refine⟨λhlt=>?_,λhge=>?_⟩
 .have hi':i<p.length:=U;have hm:=hmost (i+1) U U;refine⟨_,iO U,u9 (O.nw k4) (k:=i+1) U U ⟨_,rfl,au p (i+1),rfl,U,λh6 e6=>?_⟩⟩;obtain⟨k6,g6,z6⟩:=aj e6;rw[aQ]at g6;obtain⟨h7,s7,B7,z7,o7⟩:=ax (v:=ω (Y ⟨h4.next,0,ξ⟩) (au p (i+1)) (cx (au p (i+1)))) (o:=0+i) (k6.bk lt4 b4) (by simp;omega) rfl;refine⟨i,rfl,hi',h7,s7,_,iO U,p.length - (i+1),U,i+1,upd Bf i h4.next,rfl,U,rfl,?_,λj hj=>?_,λj j' hj hj' he=>?_,⟨by have:=k4.next;omega,λz hz=>(o7 z U).trans ((k6.get z (by have:=k4.next;omega)).trans (k4.get z hz))⟩,U⟩
  .rw[Nat.zero_add]at B7;have e:((List.range p.length).map λj=>if j<i then Value.slice (Y ⟨Bf j,0,ξ⟩) (au p (j+1)) (cx (au p (j+1))) else ω ξ 0 0).set i (ω (Y ⟨h4.next,0,ξ⟩) (au p (i+1)) (cx (au p (i+1))))=(List.range p.length).map λj=>if j<i+1 then Value.slice (Y ⟨upd Bf i h4.next j,0,ξ⟩) (au p (j+1)) (cx (au p (j+1))) else ω ξ 0 0:=by
    apply List.ext_getElem?;intro j;rw[List.getElem?_set];by_cases e:i=j
    .subst e;simp[hi',upd]
    .rw[if_neg e];by_cases hj:j<p.length
     .have e':¬j=i:=λh=>e h.symm;by_cases h:j<i
      .simp[hj,h,upd,e',Nat.lt_succ_of_lt h]
      .have h'':¬j<i+1:=U;simp[hj,h,h'']
     .simp[hj]
   rw[<-e];exact B7
  .unfold upd;by_cases e:j=i
   .subst e;rw[if_pos rfl];exact⟨(o7 _ U).trans g6,U,U⟩
   .rw[if_neg e];obtain⟨r1,r2,r3⟩:=r4 j U;exact⟨(o7 _ U).trans ((k6.get _ r3).trans r1),r2,U⟩
  .unfold upd at he;by_cases e:j=i
   .by_cases e':j' = i
    .omega
    .rw[if_pos e,if_neg e']at he;have:=(r4 j' U).2.2;omega
   .by_cases e':j' = i
    .rw[if_neg e,if_pos e']at he;have:=(r4 j U).2.2;omega
    .rw[if_neg e,if_neg e']at he;exact d4 j j' U U he
 .obtain rfl:i=p.length:=U;have M4:mM h.next h4 T p.length Bf (λj=>List.replicate (au p (j+1)) false):=by
   refine⟨?_,λj hj=>by rw[List.map_replicate];exact(r4 j hj).1,d4,λj hj=>by have:=(r4 j hj).2.1;omega,⟨U,λj hj=>by have:=(r4 j hj).2.1;omega⟩,lt4,λj hj=>(r4 j hj).2.2⟩;have e:kg p.length Bf (λj=>List.replicate (au p (j+1)) false)=(List.range p.length).map λj=>if j<p.length then ω (Y ⟨Bf j,0,ξ⟩) (au p (j+1)) (cx (au p (j+1))) else ω ξ 0 0:=by
    unfold kg;apply List.map_congr_left;intro j hj;have:j<p.length:=by simpa using hj
    simp[this]
   rw[e];exact b4
  have ok0:vg N p xs 0 (λj=>List.replicate (au p (j+1)) false):=⟨λj _=>by simp,λj c hj=>⟨λh=>(by rw[List.getElem?_replicate]at h;split at h <;>cases h),λ⟨_,q,x,h,_⟩=>absurd h U⟩⟩;have okn:(n:Int)=0->vg N p xs n (λj=>List.replicate (au p (j+1)) false):=λh0=>by
   obtain rfl:n=0:=U;exact ok0
  refine⟨λh0=>hK1 B T Bf _ h4 M4 (okn h0) k4,λhn0=>Ha (O.nw k4) λA2 K2 h8 s8 k8=>⟨_,_,_,rfl,JF (G.nw (k4.trans k8)) λA3 n3 K3 A4 n4 K4 A5 n5 K5 h9 t1 t2 t3 k9=>⟨_,_,_,_,_,_,_,_,_,rfl,λh10 e10=>?_⟩⟩⟩;obtain⟨h11,s11,k11,g11,z11⟩:=aD (vs:=[ω A3 n3 K3,ω A4 n4 K4,ω A5 n5 K5]) e10 rfl (eR rfl rfl rfl);have z8:=k8.next;have z9:=k9.next;have k411:=(k8.trans k9).trans k11;have k011:=k4.trans k411;have SB:∀z,(∃j,j<p.length/\z=Bf j)->T<z/\z<h4.next:=λz ⟨j,hj,e⟩=>by subst e;exact(r4 j hj).2
  refine⟨h11,s11,λm x h12=>∃(i:Nat) (R:Nat->List Bool),x=i/\i<=n/\m=n - i/\mM h.next h12 T p.length Bf R/\vg N p xs i R/\Mt (λz=>∃j,j<p.length/\z=Bf j) h11 h12,n,⟨0,_,rfl,Nat.zero_le _,rfl,M4.nw k411,ok0,Mt.refl _ _⟩,?_⟩;rintro m x h12 ⟨i,R,rfl,hi2,rfl,M12,ok12,m12⟩;have k12:Nw h h12:=m12.is_nw k011 λz hz=>by have:=(SB z hz).1;omega
  have z12:=m12.next;refine⟨λhlt=>?_,λhge=>?_⟩
  .have hi':i<n:=U;obtain⟨b',o',x,hA',-,hlb,hx,hc,hn5⟩:=(hs.nw k12).chg (k:=i) hi';have hxo:=B.ok x (List.mem_of_getElem? hx);refine⟨i,rfl,b',o',hA',hi',_,_,_,_,_,hn5,λh13 e13=>?_⟩;obtain⟨h14,s14,k14,g14,z14⟩:=aD (vs:=go x) e13 rfl (Ay x);have M14:=M12.nw k14;have G14:=G.nw (k12.trans k14);have g11':∀{h'},Nw h12 h'->Bk h' h9.next [ω A3 n3 K3,ω A4 n4 K4,ω A5 n5 K5] 166:=λa=>a.bk U (m12.bk U (λhz=>by have:=(SB _ hz).2;omega) g11);have next:∀h' R',mM h.next h' T p.length Bf R'->vg N p xs (i+1) R'->Mt (λz=>∃j,j<p.length/\z=Bf j) h12 h'->WR ((i:Int)+1) λx16=>RE (n - i) λm'=>∃(i:Nat) (R:Nat->List Bool),x16=i/\i<=n/\m' = n - i/\mM h.next h' T p.length Bf R/\vg N p xs i R/\Mt (λz=>∃j,j<p.length/\z=Bf j) h11 h':=λh' R' a1 a2 a3=>
    ⟨_,iO U,n - (i+1),U,i+1,R',rfl,U,rfl,a1,a2,m12.then a3⟩
   obtain⟨kd,at_,ci,co,w⟩:=x;have s8':∀{h'},Nw h12 h'->Sa aM (λz=>h4.next<=z) h' A2 p.length K2 p:=λa=>((s8.nw (k9.trans k11)).off m12 λz hz e=>by have:=(SB z e).2;omega).nw a;refine⟨h14,s14,kd,aa g14 rfl,λc1=>⟨at_,aa g14 rfl,w,aa g14 rfl,?_⟩,λc1=>⟨λc2=>?_,λc2=>?_⟩⟩
   .subst c1;obtain⟨hw,⟨-,a1,a2,-,-⟩ | ⟨h1,-⟩⟩:=hxo
    case inr=>simp at h1
    simp only at a1 a2;obtain⟨a,rfl⟩:=Int.eq_ofNat_of_zero_le a1;have ha:a<N.na:=Int.ofNat_lt.1 a2;refine me G14 ha ⟨_,rfl,aa g14 rfl,λheq=>next h14 R M14 (ok12.next hx (λ_ _=>rfl) λj c _ _=>⟨.inl,λhh=>hh.elim id λht=>?_⟩) (.of k14),λhne=>⟨_,aa g14 rfl,_,aa g14 rfl,wR G14 ha ⟨_,rfl,aa g14 rfl,GX G14 ha ⟨_,rfl,?_⟩⟩⟩⟩
    .rcases ht with⟨_,h2,_⟩ | ⟨h1,_⟩
     .exact absurd heq h2
     .simp at h1
    .refine Hc M14 hp (s8' k14) (λz hz j hj e=>by have:=(r4 j hj).2.2;omega) ok12.1 U (ab.fr_lt hok ha).1 (ab.to_lt hok ha).1 λh15 M15 m15=>⟨rfl,next h15 _ M15 (ok12.next hx (λj _=>ra _ _ _ _ _) λj c hj hc=>?_) ((Mt.of k14).then m15)⟩;rw[re,ok12.1 j hj];constructor
     .rintro(h1 | ⟨h1,h2,h3⟩)
      .exact .inl h1
      .exact .inr (.inl ⟨rfl,hne,h2.symm,by rw[h2];exact h1.symm⟩)
     .rintro(h1 | ⟨-,-,h2,h3⟩ | ⟨h1,-⟩)
      .exact .inl h1
      .exact .inr ⟨h2.trans h3.symm,h2.symm,hc⟩
      .simp at h1
   .subst c2;obtain⟨hw,⟨h1,-⟩ | ⟨-,⟨a1,a2⟩,⟨a3,a4⟩,a5,a6⟩⟩:=hxo
    .simp at h1
    simp only at a1 a2 a3 a4 a5 a6;obtain⟨a,rfl⟩:=Int.eq_ofNat_of_zero_le a1;obtain⟨ti,rfl⟩:=Int.eq_ofNat_of_zero_le a3;obtain⟨to,rfl⟩:=Int.eq_ofNat_of_zero_le a5;have ha:a<N.ts.length:=Int.ofNat_lt.1 a2;have t3':Sa eH (λz=>h8.next<=z) h14 A5 n5 K5 N.ts:=((t3.nw k11).off m12 λz hz e=>by have:=(SB z e).2;omega).nw k14;have hn5':=t3.len;obtain⟨bt,ot,ins,outs,A',n',K',zs,hA5,-,-,ht,l0,l1,l2,sz⟩:=t3'.table (k:=a) U;have htb:N.tb a=(ins,outs,zs):=by simp[ab.tb,ht]
    have htk:=ab.tb_ok hok ha;rw[Int.toNat_natCast,htb]at a4 a6;rw[htb]at htk;have h16:=htk.ins_;have h17:=htk.outs_;simp only at a4 a6 h16 h17;refine⟨_,_,_,aa (g11' k14) rfl,_,aa g14 rfl,a,rfl,bt,ot,hA5,U,_,_,_,_,_,bi l0 l1 l2,_,aa g14 rfl,_,aa g14 rfl,_,aa g14 rfl,z0 sz htk ti to U U λh19 k19=>⟨_,rfl,aa (k19.bk U g14) rfl,λheq=>next h19 R (M14.nw k19) (ok12.next hx (λ_ _=>rfl) λj c _ _=>⟨.inl,λhh=>hh.elim id λht=>?_⟩) (.of (k14.trans k19)),λhne=>⟨_,_,_,aa (g11' (k14.trans k19)) rfl,?_⟩⟩⟩
    .rcases ht with⟨h1,_⟩ | ⟨_,h2,_⟩
     .simp at h1
     .simp only[Int.toNat_natCast,htb]at h2;exact absurd heq h2
    .have k1219:=k14.trans k19;have z19:=k1219.next;have hv3:n3=N.nv:=t1.len.symm;have t1':Sa aS (λz=>h8.next<=z) h19 A3 n3 K3 N.vs:=((t1.nw k11).off m12 λz hz e=>by have:=(SB z e).2;omega).nw k1219;have g14':=k19.bk U g14;refine⟨λm x h20=>∃(v:Nat) (R':Nat->List Bool),x=v/\v<=n3/\m=n3 - v/\mM h.next h20 T p.length Bf R'/\(∀j,j<p.length->(R' j).length=(R j).length)/\(∀j c,j<p.length->c<au p (j+1)->((R' j)[c]? = Y true↔(R j)[c]? = Y true\/∃u,u<v/\N.ty u=(a:Int)/\aG p (j+1) u=c))/\Mt (λz=>∃j,j<p.length/\z=Bf j) h19 h20,n3,⟨0,R,rfl,Nat.zero_le _,rfl,M14.nw k19,λ_ _=>rfl,λj c _ _=>⟨.inl,λhh=>hh.elim id λ⟨u,hu,_⟩=>absurd hu U⟩,Mt.refl _ _⟩,?_⟩;rintro m x h20 ⟨v,R',rfl,hv,rfl,M20,l20,q20,m20⟩;have z4a:h4.next<=h12.next:=U;have z1419:=k19.next;have g20:Bk h20 h12.next (go (2,(a:Int),(ti:Int),(to:Int),w)) 160:=m20.bk (by have:=k19.next;omega) (λhz=>by have:=(SB _ hz).2;omega) g14';have z20:=m20.next;refine⟨λhlt2=>?_,λhge2=>?_⟩
     .have hv':v<n3:=U;obtain⟨bv,ov,x1,x2,x3,hA3,-,-,hvx,v0,v1,v2⟩:=(t1'.off m20 λz hz e=>by have:=(SB z e).2;omega).tri hv';refine⟨v,rfl,bv,ov,hA3,hv',_,_,_,wS v0 v1 v2,λh21 e21=>?_⟩;obtain⟨h22,s22,k22,g22,z22⟩:=aD (vs:=[η ν x1,η ν x2,η ν x3]) e21 rfl (eR rfl rfl rfl);have hty:N.ty v=x3:=by simp[ab.ty,hvx]
      have nxt:∀h' R2,mM h.next h' T p.length Bf R2->(∀j,j<p.length->(R2 j).length=(R j).length)->(∀j c,j<p.length->c<au p (j+1)->((R2 j)[c]? = Y true↔(R' j)[c]? = Y true\/(N.ty v=(a:Int)/\aG p (j+1) v=c)))->Mt (λz=>∃j,j<p.length/\z=Bf j) h20 h'->WR ((v:Int)+1) λx36=>RE (n3 - v) λm'=>∃(v:Nat) (R':Nat->List Bool),x36=v/\v<=n3/\m' = n3 - v/\mM h.next h' T p.length Bf R'/\(∀j,j<p.length->(R' j).length=(R j).length)/\(∀j c,j<p.length->c<au p (j+1)->((R' j)[c]? = Y true↔(R j)[c]? = Y true\/∃u,u<v/\N.ty u=(a:Int)/\aG p (j+1) u=c))/\Mt (λz=>∃j,j<p.length/\z=Bf j) h19 h':=λh' R2 a1 a2 a3 a4=>
       ⟨_,iO U,n3 - (v+1),U,v+1,R2,rfl,U,rfl,a1,a2,λj c hj hc=>by
        rw[a3 j c hj hc,q20 j c hj hc];constructor
        .rintro((h1 | ⟨u,h1,h2⟩) | h1)
         .exact .inl h1
         .exact .inr ⟨u,U,h2⟩
         .exact .inr ⟨v,U,h1⟩
        .rintro(h1 | ⟨u,h1,h2⟩)
         .exact .inl (.inl h1)
         .by_cases e:u=v
          .subst e;exact .inr h2
          .exact .inl (.inr ⟨u,U,h2⟩),m20.then a4⟩
      refine⟨h22,s22,_,aa g22 rfl,_,aa (k22.bk U g20) rfl,λheq=>?_,λhne2=>nxt h22 R' (M20.nw k22) l20 (λj c _ _=>⟨.inl,λhh=>hh.elim id λht=>absurd (hty.symm.trans ht.1) hne2⟩) (.of k22)⟩;refine Hc (M20.nw k22) hp (((s8' k1219).off m20 λz hz e=>by have:=(SB z e).2;omega).nw k22) (λz (hz:h4.next<=z) j hj e=>by have:=(r4 j hj).2.2;omega) (λj hj=>(l20 j hj).trans (ok12.1 j hj)) U (a:=v) (b:=v) U U λh23 M23 m23=>⟨rfl,nxt h23 _ M23 (λj hj=>(ra _ _ _ _ _).trans (l20 j hj)) (λj c hj hc=>?_) ((Mt.of k22).then m23)⟩;rw[re,l20 j hj,ok12.1 j hj];constructor
      .rintro(h1 | ⟨-,h2,-⟩)
       .exact .inl h1
       .exact .inr ⟨hty.trans heq,h2.symm⟩
      .rintro(h1 | ⟨-,h2⟩)
       .exact .inl h1
       .exact .inr ⟨rfl,h2.symm,hc⟩
     .obtain rfl:v=n3:=U;refine next h20 R' M20 (ok12.next hx l20 λj c hj hc=>?_) ((Mt.of k1219).then m20)
      rw[q20 j c hj hc];constructor
      .rintro(h1 | ⟨u,h1,h2,h3⟩)
       .exact .inl h1
       .refine .inr (.inr ⟨rfl,?_,u,U,h2,h3⟩);simp only[Int.toNat_natCast,htb];exact hne
      .rintro(h1 | ⟨h1,-⟩ | ⟨-,-,u,h1,h2,h3⟩)
       .exact .inl h1
       .simp at h1
       .exact .inr ⟨u,U,h2,h3⟩
   .exfalso;rcases hxo.is with⟨h1,-⟩ | ⟨h1,-⟩
    .exact c1 h1
    .exact c2 h1
  .obtain rfl:i=n:=U;exact hK1 B T Bf R h12 M12 ok12 k12
end
end Eva
end
section
open Go Go.RowKit
namespace Eva
section
variable {h h':AH}{F Fa Fo:Nat->Prop}{Q:Value->AH->Prop}{A:Option Addr}{n K g o C:Nat}{N M:ab}{p:List (List Int)}{xs:List eQ}{costs:List Int}
theorem bV.gatesL (S:bV N M) (k:Nat):M.gatesL p k=N.gatesL p k:=by
 unfold ab.gatesL
 congr 1
 funext c
 rw[S.ins,S.outs]
theorem bV.startsL (S:bV N M) (k:Nat):M.startsL p k=N.startsL p k:=by
 unfold ab.startsL
 congr 1
 funext c
 rw[S.start]
theorem fE.shp (O:fE h Fo o N p) (S:bV N M) (hok:M.Ok):fE h Fo o M p:=by
 obtain⟨w,a,⟨b1,b2,b3,b4,b5⟩,⟨c1,c2,c3,c4,c5⟩,⟨d1,d2,d3,d4,d5⟩,⟨e1,e2,e3,e4,e5⟩,q1,q2,q3,q4,q5⟩:=O;have hg:((List.range p.length).map λj=>M.gatesL p (j+1))=(List.range p.length).map λj=>N.gatesL p (j+1):=by
  congr 1;funext j;exact bV.gatesL S _
 have hs:((List.range p.length).map λj=>M.startsL p (j+1))=(List.range p.length).map λj=>N.startsL p (j+1):=by
  congr 1;funext j;exact bV.startsL S _
 have hf:((List.range M.na).map λa=>((M.fr a:Nat):Int))=(List.range N.na).map λa=>((N.fr a:Nat):Int):=by
  rw[S.na];congr 1;funext j;rw[S.fr]
 have ht:((List.range M.na).map λa=>((M.to a:Nat):Int))=(List.range N.na).map λa=>((N.to a:Nat):Int):=by
  rw[S.na];congr 1;funext j;rw[S.to]
 exact⟨w,a,⟨b1,b2,b3,b4,by rw[hf];exact b5⟩,⟨c1,c2,c3,c4,by rw[ht];exact c5⟩,⟨d1,d2,d3,d4,by rw[hg];exact d5⟩,⟨e1,e2,e3,e4,by rw[hs];exact e5⟩,by rw[S.size];exact q1,by rw[S.nv];exact q2,by rw[S.size];exact q3,hok,by rw[S.nv,S.na];exact q5⟩
theorem Gg (O:fE h F o N p){k c:Nat}(hk1:1<=k) (hk:k<=p.length) (hc:c<au p k) (hz:(N.ins p k c).length=0\/(N.outs p k c).length=0)
  (hK:∀h',Nw h h'->Q (η ν (-1)) h'):WC Tryz.prog 59 [ψ (Y ⟨o,0,ξ⟩),η ν k,η ν c,η ν 0,η ν 0] h Q:=by
 obtain⟨k,rfl⟩:∃k',k=k' + 1:=⟨k - 1,U⟩;have hp6:=O.hp.few;obtain⟨b1,o1,n1,K1,b2,o2,K2,A3,K3,A4,K4,c3,hkn,l1,e2,l2,e3,e4,s3,s4⟩:=O.gate_ (k:=k) U hc;obtain⟨ni,hni⟩:∃ni,(N.ins p (k+1) c).length=ni:=⟨_,rfl⟩;obtain⟨no,hno⟩:∃no,(N.outs p (k+1) c).length=no:=⟨_,rfl⟩;rw[hni]at e3 s3 hz;rw[hno]at e4 s4 hz;refine cC (BT O hk1 hk hc ⟨_,rfl,λ_=>?_,λh=>Bool.noConfusion h⟩);refine⟨_,_,rfl,_,_,_,c3,_,ae U U,k,U,_,_,rfl,hkn,_,_,_,e2,c,rfl,_,_,rfl,hc,_,_,_,_,_,_,kT e3 e4,λh2 e7=>?_⟩;obtain⟨h3,hs3,k3,g3,z3⟩:=aD (vs:=[ω A3 ni K3,ω A4 no K4]) e7 rfl (cR rfl rfl);have y0:ldC h3 h.next 0=Y (ω A3 ni K3):=aa g3 rfl;have y1:ldC h3 h.next 1=Y (ω A4 no K4):=aa g3 rfl;exact⟨h3,hs3,λh=>absurd h U,λ_=>⟨_,_,_,y0,λh=>hK _ k3,λh0=>⟨λh=>absurd h U,λ_=>⟨_,_,_,y1,λh=>hK _ k3,λh1=>absurd hz U⟩⟩⟩⟩
structure Ew (W:Nat->Prop) (h0 h:AH) (g o C:Nat) (costs:List Int) (N:ab) (p:List (List Int)):Prop where
 gr:∃Fa Ft F,rV h Fa Ft F g N/\(∀z,Fa z\/Ft z\/F z->h0.next<=z)/\∃Fo,fE h Fo o N p/\(∀z,Fo z->h0.next<=z/\¬Fa z/\¬Ft z)/\¬Fa C/\¬Ft C/\∀z,Fa z\/Ft z\/F z\/Fo z\/z=C->W z
 cs:Bk h C (costs.map (Value.int .i64)) 2
 cp:h0.next<=C/\C<h.next
 ok:cZ N p costs
 nn:∀x∈costs,0<=x
theorem mo.w {h0 h:AH}(R:mo h0 h g o C costs N p):Ew (λz=>h0.next<=z) h0 h g o C costs N p:=by
 obtain⟨⟨Fa,Ft,F,X,lo,Fo,O,loo,n1,n2⟩,cs,cp,co,nn⟩:=R;refine⟨⟨Fa,Ft,F,X,lo,Fo,O,loo,n1,n2,λz hz=>?_⟩,cs,cp,co,nn⟩;rcases hz with h | h | h | h | h
 .exact lo z (.inl h)
 .exact lo z (.inr (.inl h))
 .exact lo z (.inr (.inr h))
 .exact(loo z h).1
 .rw[h];exact cp.1
theorem Ew.a {W:Nat->Prop}{h0 h:AH}(R:Ew W h0 h g o C costs N p):mo h0 h g o C costs N p:=by
 obtain⟨⟨Fa,Ft,F,X,lo,Fo,O,loo,n1,n2,-⟩,cs,cp,co,nn⟩:=R;exact⟨⟨Fa,Ft,F,X,lo,Fo,O,loo,n1,n2⟩,cs,cp,co,nn⟩
theorem Ex {W:Nat->Prop}{h0 hb:AH}(R:Ew W h0 hb g o C costs N p) (a:Nw hb h) (hna3:N.na<=300) (hsz:N.size p<1000000){Fl:Nat->Prop}(hs:Sz gm Fl h A n K xs) (hFl:∀z,Fl z->¬W z\/hb.next<=z)
  (hK1:cO N xs->∀C' costs' cnt h',Ew (λz=>(W z/\z<hb.next)\/h.next<=z) h0 h' g o C' costs' (N.doL xs) p->Mt (λz=>W z/\z<hb.next) h h'->Q (.tuple #[ω (Y ⟨C',0,ξ⟩) (N.size p) (cx (N.size p)),η ν cnt,.nilIface]) h')
  (hK2:¬cO N xs->∀t u h',Nw h h'->Q (.tuple #[ω ξ 0 0,η ν 0,.iface t u]) h') :
  WC Tryz.prog 24 [ψ (Y ⟨g,0,ξ⟩),ψ (Y ⟨o,0,ξ⟩),ω (Y ⟨C,0,ξ⟩) (N.size p) (cx (N.size p)),ω A n K] h Q:=by
 obtain⟨⟨Fa0,Ft0,F0,X0,lo0,Fo0,O0,loo,nC1,nC2,inW⟩,cs,cp,co,nn⟩:=R;have nC:¬Fa0 C/\¬Ft0 C:=⟨nC1,nC2⟩;have X:=(X0.lt).nw a;have O:=((O0.mono (Fo':=λz=>Fo0 z/\z<hb.next) λz hz hl=>⟨hz,hl⟩).nw a);have az:=a.next;have cs1:=a.bk cp.2 cs;have hp:=O.hp;have hnp:=hp.few;have hok:=O.ok;have hl:=hs.len;obtain⟨sz,hszE⟩:∃sz,N.size p=sz:=⟨_,rfl⟩;have hcl:costs.length=sz:=by rw[<-hszE];exact co.1
 rw[hszE]at hsz hK1⊢;refine BB (D1 O ⟨_,rfl,λheq=>?_,λhne=>absurd (by rw[hszE]) hne⟩);refine Ev X.gr O hs (λB T Bf Rm h2 M ok2 k2=>⟨_,_,_,ξ,rfl,λ_=>?_,λt u h=>by cases h⟩) λnB t u h2 k2=>⟨_,_,_,Y (t,u),rfl,(λh=>by cases h),λt' u' e=>by cases e;exact hK2 nB t u h2 k2⟩;have hFl':∀z,Fl z->¬(Fa0 z/\z<hb.next)/\¬(Ft0 z/\z<hb.next):=λz hz=>by
  have h1:=hFl z hz;exact⟨λh=>h1.elim (λh2=>h2 (inW z (.inl h.1))) (λh2=>U),λh=>h1.elim (λh2=>h2 (inW z (.inr (.inl h.1)))) (λh2=>U)⟩
 refine Id (X.nw k2) (hs.nw k2) hFl' B λh3 T3=>⟨ξ,rfl,λ_=>⟨U,λh4 e4=>?_⟩,λt u h=>by cases h⟩;obtain⟨⟨Fa3,Ft3,F3,X3,c1,c2⟩,m3⟩:=T3;obtain⟨M1,hM1⟩:∃M1,N.doL xs=M1:=⟨_,rfl⟩;have S:bV N M1:=hM1 ▸ ab.doL_shp xs;have hok1:M1.Ok:=hM1 ▸ ab.doL_ok hok xs B.ok;rw[hM1]at X3 hK1;have z2:=k2.next;have z3:=m3.next;have M3:mM h.next h3 T p.length Bf Rm:=M.off m3 λz hz ht=>by
  have:z<hb.next:=hz.elim (λh=>h.2) λh=>h.2;rcases ht with rfl | ⟨i,hi,rfl⟩
  .have:=M.lo.1;omega
  .have:=M.lo.2 i hi;omega
 have O3:fE h3 (λz=>Fo0 z/\z<hb.next) o M1 p:=fE.shp ((O.nw k2).off m3 λz hz ht=>ht.elim (λh=>(loo z hz.1).2.1 h.1) λh=>(loo z hz.1).2.2 h.1) S hok1;have cs3:Bk h3 C (costs.map (Value.int .i64)) 2:=m3.bk U (λht=>ht.elim (λh=>nC.1 h.1) λh=>nC.2 h.1) (k2.bk U cs1);have X3':=X3.lt;obtain⟨k4,g4,z4⟩:=aj e4;obtain⟨C',hC'⟩:∃C',h3.next=C':=⟨_,rfl⟩;rw[hC']at g4 z4;rw[aQ]at g4;have g4':Bk h4 C' ((List.replicate sz (0:Int)).map (Value.int .i64)) 2:=by rw[List.map_replicate];exact g4
 rw[hC'];have s4:Sa cI (λz=>z=C) h4 (Y ⟨C,0,ξ⟩) sz (cx sz) costs:=(Sa.of_ints (F:=λz=>z=C) cs3 hcl rfl U).nw k4;obtain⟨h5,y1,y2,y3,y4⟩:=Eo (n:=sz) (lo:=0) (x:=0) (K:=cx sz) g4' (by simp) s4 U (λ_=>rfl);have e5:eD (List.replicate sz (0:Int)) costs 0=costs:=by
  unfold eD;simp[hcl]
 rw[e5]at y2;have k35:Nw h3 h5:=⟨U,λz hz=>(y4 z U).trans (k4.get z hz)⟩;have unt:∀k c,1<=k->k<=p.length->c<au p k->(¬∃q x,q<n/\xs[q]? = Y x/\FP N p k c x)->bz M1 p costs k c:=λk c h1 h2 h3 hno=>by
  refine bz.same S hok ?_ (co.2 k c h1 h2 h3);rw[<-hM1];refine yO hok xs B.ok λx hx ht=>hno ?_;obtain⟨q,hq⟩:=List.getElem?_of_mem hx;exact⟨q,x,by have:=(List.getElem?_eq_some_iff.1 hq).1;omega,hq,ht⟩
 refine⟨_,h5,y1,λm x3 x4 h6=>∃(i:Nat) (cs:List Int),x4=i/\i<=p.length/\m=p.length - i/\cs.length=sz/\Bk h6 C' (cs.map (Value.int .i64)) 2/\(∀k c,1<=k->k<=p.length->c<au p k->(k<=i\/¬∃q x,q<n/\xs[q]? = Y x/\FP N p k c x)->bz M1 p cs k c)/\(∀x∈cs,0<=x)/\Nw h3 h6/\C' < h6.next,p.length,⟨0,costs,rfl,Nat.zero_le _,rfl,hcl,y2,λk c h1 h2 h3 h4=>unt k c h1 h2 h3 (h4.elim (λh=>U) id),nn,k35,U⟩,?_⟩;rintro m x3 x4 h6 ⟨i,cs,rfl,hi,rfl,l6,b6,c6,n6,k6,lt6⟩;refine⟨λhlt=>?_,λhge=>?_⟩
 .have hi':i<p.length:=U;refine⟨i,rfl,T,0,rfl,hi',_,_,_,(M3.nw k6).at_ hi',?_⟩;refine⟨λm x5 x6 h7=>∃(c:Nat) (cs:List Int),x6=c/\c<=au p (i+1)/\m=au p (i+1) - c/\cs.length=sz/\Bk h7 C' (cs.map (Value.int .i64)) 2/\(∀k c',1<=k->k<=p.length->c' < au p k->(k<=i\/(k=i+1/\c' < c)\/¬∃q x,q<n/\xs[q]? = Y x/\FP N p k c' x)->bz M1 p cs k c')/\(∀x∈cs,0<=x)/\Nw h3 h7/\C' < h7.next,au p (i+1),⟨0,cs,rfl,Nat.zero_le _,rfl,l6,b6,λk c' h1 h2 h3 h4=>c6 k c' h1 h2 h3 (h4.elim .inl λh4=>h4.elim (λh=>absurd h.2 U) .inr),n6,k6,lt6⟩,?_⟩;rintro m x5 x6 h7 ⟨c,cs,rfl,hc,rfl,l7,b7,c7,n7,k7,lt7⟩;have hmost:au p (i+1)<=N.nv:=by
   obtain⟨row,hr⟩:∃row,p[i+1 - 1]? = Y row:=⟨_,List.getElem?_eq_getElem U⟩;have h2:=gU hr;have h3:=dq (row:=row) (n:=(N.nv:Int)) U (λx hx=>(hp.inr _ (List.mem_of_getElem? hr) x hx).2);omega
  have hnv:=O.nfew.1;have hlen:=ok2.1 i hi';refine⟨λhlt2=>?_,λhge2=>?_⟩
  .have hc':c<au p (i+1):=by rw[hlen]at hlt2;omega
   have next:∀h' cs' (x:Int),cs'.length=sz->Bk h' C' (cs'.map (Value.int .i64)) 2->(∀k c',1<=k->k<=p.length->c' < au p k->(k<=i\/(k=i+1/\c' < c+1)\/¬∃q x,q<n/\xs[q]? = Y x/\FP N p k c' x)->bz M1 p cs' k c')->(∀x∈cs',0<=x)->Nw h3 h'->C' < h'.next->WR ((c:Int)+1) λx12=>RE (au p (i+1) - c) λm'=>∃(c:Nat) (cs:List Int),x12=c/\c<=au p (i+1)/\m' = au p (i+1) - c/\cs.length=sz/\Bk h' C' (cs.map (Value.int .i64)) 2/\(∀k c',1<=k->k<=p.length->c' < au p k->(k<=i\/(k=i+1/\c' < c)\/¬∃q x,q<n/\xs[q]? = Y x/\FP N p k c' x)->bz M1 p cs k c')/\(∀x∈cs,0<=x)/\Nw h3 h'/\C' < h'.next:=λh' cs' x a1 a2 a3 a4 a5 a6=>
    ⟨_,iO U,au p (i+1) - (c+1),U,c+1,cs',rfl,U,rfl,a1,a2,a3,a4,a5,a6⟩
   obtain⟨b,hb⟩:∃b,(Rm i)[c]? = Y b:=⟨_,List.getElem?_eq_getElem (by rw[hlen];exact hc')⟩;have hld:ldC h7 (Bf i) (0+c)=Y (.bool b):=by
    refine aa ((M3.nw k7).row i hi') ?_;rw[Nat.zero_add,List.getElem?_map,hb];rfl
   refine⟨c,rfl,Bf i,0,rfl,by rw[hlen];exact hc',b,hld,λhbt=>?_,λhbf=>?_⟩
   .have w1:IntKind.i64.wrap ((i:Int)+1)=((i+1:Nat):Int):=iO U;have s7:Sa cI (λz=>z=C') h7 (Y ⟨C',0,ξ⟩) sz (cx sz) cs:=Sa.of_ints (F:=λz=>z=C') b7 l7 rfl lt7;have G7:=(X3'.nw k7).gr;have O7:=O3.nw k7;have hszM:M1.size p=sz:=by rw[S.size];exact hszE
    have naM:M1.na<=300:=by rw[S.na];exact hna3
    refine⟨_,rfl,_,w1,Jy G7 naM O7 (k:=i+1) U U hc' s7 U U n7 (λh2 d hd=>c7 (i+1 - 1) d U U hd (.inl U)) λA5 n5 K5 l h8 s8 hone hlnn k8=>⟨_,_,_,rfl,_,w1,?_⟩⟩;have O8:=O7.nw k8;have b8:=k8.bk lt7 b7;have z8:=k8.next;by_cases hz:(M1.ins p (i+1) c).length=0\/(M1.outs p (i+1) c).length=0
    .refine Gg O8 U U hc' hz λh9 k9=>⟨_,rfl,λh=>absurd h U,λ_=>next h9 cs (x5+1) l7 (k9.bk U b8) (λk c' h1 h2 h3 h4=>?_) n7 ((k7.trans k8).trans k9) (by have:=k9.next;omega)⟩;rcases h4 with h4 | ⟨rfl,h4⟩ | h4
     .exact c7 k c' h1 h2 h3 (.inl h4)
     .by_cases e:c' = c
      .subst e;intro i2 j2 a2 b2 g1 g2;have h5:=(List.getElem?_eq_some_iff.1 g1).1;have h6:=(List.getElem?_eq_some_iff.1 g2).1;omega
      .exact c7 _ c' h1 h2 h3 (.inr (.inl ⟨rfl,U⟩))
     .exact c7 k c' h1 h2 h3 (.inr (.inr h4))
    .refine KW O8 U U hc' (i:=0) (j:=0) U U λh9 k9=>⟨_,rfl,λ_=>?_,λh=>absurd h U⟩;have hse:=ab.start_end (N:=M1) (k:=i+1) U U hc';obtain⟨st,hst⟩:∃st,M1.start p (i+1) c=st:=⟨_,rfl⟩;have hn5:n5=M1.sz p (i+1) c:=by rw[<-s8.len];exact hone.1
     rw[hst,hszM]at hse;obtain⟨xx,KK,hxx,hsl⟩:=Ax (P:=Tryz.prog) (C:=C') (n:=sz) (lo:=st) En U;have e0:M1.start p (i+1) c+(0*(M1.outs p (i+1) c).length+0)=st:=by rw[hst];omega
     have b9:=k9.bk U b8;obtain⟨h10,q1,q2,q3,q4⟩:=Eo (K:=KK) b9 l7 (s8.nw k9) (lo:=st) (x:=xx) U hxx;have z9:=k9.next;refine⟨λ_=>⟨st,by rw[e0],_,_,_,hsl,_,h10,q1,next h10 (eD cs l st) (x5+1) ?_ q2 (λk c' h1 h2 h3 h4=>?_) (xd n7 hlnn) ⟨by have:=k7.next;omega,λz hz=>(q4 z U).trans (((k7.trans k8).trans k9).get z hz)⟩ U⟩,λh=>absurd h (by rw[e0];omega)⟩
     .rw[sU (by rw[s8.len];omega)];exact l7
     .by_cases e:i+1=k/\c=c'
      .obtain⟨rfl,rfl⟩:=e;rw[<-hst];exact bz.put U U U hc' hone
      .rw[<-hst];refine bz.putO U U U hc' hone.1 h1 h2 h3 e (c7 k c' h1 h2 h3 ?_);rcases h4 with h4 | h4 | h4
       .exact .inl h4
       .exact .inr (.inl ⟨h4.1,U⟩)
       .exact .inr (.inr h4)
   .subst hbf;refine next h7 cs x5 l7 b7 (λk c' h1 h2 h3 h4=>c7 k c' h1 h2 h3 ?_) n7 k7 lt7
    rcases h4 with h4 | ⟨rfl,h4⟩ | h4
    .exact .inl h4
    .by_cases e:c' = c
     .subst e;refine .inr (.inr λ⟨q,x,h5,h6,h7⟩=>?_);have:=(ok2.2 i c' hi').2 ⟨hc',q,x,h5,h6,h7⟩;rw[hb]at this;cases this
     .exact .inr (.inl ⟨rfl,U⟩)
    .exact .inr (.inr h4)
  .have hcm:c=au p (i+1):=by rw[hlen]at hge2;omega
   refine⟨_,iO U,p.length - (i+1),U,i+1,cs,rfl,U,rfl,l7,b7,λk c' h1 h2 h3 h4=>c7 k c' h1 h2 h3 ?_,n7,k7,lt7⟩;rcases h4 with h4 | h4
   .by_cases e:k=i+1
    .subst e;exact .inr (.inl ⟨rfl,U⟩)
    .exact .inl U
   .exact .inr (.inr h4)
 .obtain rfl:i=p.length:=U;have z6:=k6.next;refine hK1 B C' cs x3 h6 ⟨⟨_,_,_,X3'.nw k6,λz hz=>?_,λz=>Fo0 z/\z<hb.next,O3.nw k6,λz hz=>⟨(loo z hz.1).1,λhf=>?_,λhf=>?_⟩,λhf=>by have:=hf.2;omega,λhf=>by have:=hf.2;omega,λz hz=>?_⟩,b6,⟨U,lt6⟩,⟨by rw[S.size,hszE];exact l6,λk c h1 h2 h3=>c6 k c h1 h2 h3 (.inl h2)⟩,n6⟩ ?_
  .rcases hz with hz | hz | hz
   .rcases c1 z (.inl hz.1) with h | h | h
    .exact lo0 z (.inl h.1)
    .exact lo0 z (.inr (.inl h.1))
    .omega
   .rcases c1 z (.inr hz.1) with h | h | h
    .exact lo0 z (.inl h.1)
    .exact lo0 z (.inr (.inl h.1))
    .omega
   .exact lo0 z (.inr (.inr (c2 z hz.1).1))
  .rcases c1 z (.inl hf.1) with h | h | h
   .exact(loo z hz.1).2.1 h.1
   .exact(loo z hz.1).2.2 h.1
   .have:=hz.2;omega
  .rcases c1 z (.inr hf.1) with h | h | h
   .exact(loo z hz.1).2.1 h.1
   .exact(loo z hz.1).2.2 h.1
   .have:=hz.2;omega
  .have hz':Fa3 z\/Ft3 z->(W z/\z<hb.next)\/h.next<=z:=λhz=>by
    rcases c1 z hz with h | h | h
    .exact .inl ⟨inW z (.inl h.1),h.2⟩
    .exact .inl ⟨inW z (.inr (.inl h.1)),h.2⟩
    .exact .inr U
   rcases hz with h | h | h | h | h
   .exact hz' (.inl h.1)
   .exact hz' (.inr h.1)
   .exact .inl ⟨inW z (.inr (.inr (.inl (c2 z h.1).1))),(c2 z h.1).2⟩
   .exact .inl ⟨inW z (.inr (.inr (.inr (.inl h.1)))),h.2⟩
   .exact .inr U
  .refine((Mt.of k2).trans m3 λz hz hl=>hz) |>.nw k6 |>.mono λz hz _=>?_;rcases hz with h | h
   .exact⟨inW z (.inl h.1),h.2⟩
   .exact⟨inW z (.inr (.inl h.1)),h.2⟩
theorem Gh {h0 hb:AH}(R:mo h0 hb g o C costs N p) (a:Nw hb h) (hna3:N.na<=300) (hsz:N.size p<1000000){Fl:Nat->Prop}(hs:Sz gm Fl h A n K xs) (hFl:∀z,Fl z->z<h0.next\/hb.next<=z)
  (hK1:cO N xs->∀C' costs' cnt h',mo h0 h' g o C' costs' (N.doL xs) p->Mt (λz=>h0.next<=z/\z<hb.next) h h'->Q (.tuple #[ω (Y ⟨C',0,ξ⟩) (N.size p) (cx (N.size p)),η ν cnt,.nilIface]) h')
  (hK2:¬cO N xs->∀t u h',Nw h h'->Q (.tuple #[ω ξ 0 0,η ν 0,.iface t u]) h') :
  WC Tryz.prog 24 [ψ (Y ⟨g,0,ξ⟩),ψ (Y ⟨o,0,ξ⟩),ω (Y ⟨C,0,ξ⟩) (N.size p) (cx (N.size p)),ω A n K] h Q:=by
 exact Ex R.w a hna3 hsz hs (λz hz=>(hFl z hz).imp (λh=>U) id) (λB C' costs' cnt h' R' m=>hK1 B C' costs' cnt h' R'.a (m.mono λz hz _=>hz)) hK2
end
end Eva
end
section
open Go Go.RowKit
open Classical in
noncomputable def ab.step (N:ab) (l:List eQ):ab:=if cO N l then N.doL l else N
noncomputable def ab.behind (N:ab) (ls:List (List eQ)):ab:=ls.foldl ab.step N
theorem ab.step_shp (N:ab) (l:List eQ):bV N (N.step l):=by
 unfold ab.step
 split
 .exact ab.doL_shp l
 .exact bV.refl N
theorem ab.step_ok {N:ab}(hok:N.Ok) (l:List eQ):(N.step l).Ok:=by
 unfold ab.step
 split
 .rename_i B;exact ab.doL_ok hok l B.ok
 .exact hok
theorem ab.behind_snoc (N:ab) (ls:List (List eQ)) (l:List eQ):N.behind (ls ++ [l])=(N.behind ls).step l:=by simp[ab.behind,List.foldl_append]
theorem ab.behind_shp:∀(ls:List (List eQ)) (N:ab),bV N (N.behind ls)
 | [],N=>bV.refl N
 | l :: ls,N=>(ab.step_shp N l).trans (ab.behind_shp ls (N.step l))
theorem ab.behind_ok:∀(ls:List (List eQ)){N:ab},N.Ok->(N.behind ls).Ok
 | [],N,h=>h
 | l :: ls,N,h=>ab.behind_ok ls (ab.step_ok h l)
namespace Eva
theorem Mo:tf Tryz.prog 160 5 40=true:=by kernel_rfl
section
variable {h h':AH}{F G:Nat->Prop}{Q:Value->AH->Prop}{A Av Aa At Ap Al:Option Addr}{n K nv Kv na Ka nt Kt np Kp nl Kl g o C:Nat}{N:ab}{p:List (List Int)}{xs:List eQ}{ls:List (List eQ)}{costs:List Int}
theorem mo.lower {h0 h2:AH}(R:mo h2 h' g o C costs N p) (hn:h0.next<=h2.next):mo h0 h' g o C costs N p:=by
 obtain⟨⟨Fa,Ft,F',X,lo,Fo,O,lo2,nC⟩,cs,cp,co,nn⟩:=R;exact⟨⟨Fa,Ft,F',X,λz hz=>by have:=lo z hz;omega,Fo,O,λz hz=>⟨by have:=(lo2 z hz).1;omega,(lo2 z hz).2⟩,nC⟩,cs,⟨U,cp.2⟩,co,nn⟩
theorem JI (hs:Sz gm F h A n K xs) (hn:n<=1000) (hK:∀A' K' h',Sa gm (λz=>h.next<=z) h' A' n K' xs->Nw h h'->Q (ω A' n K') h') :
  WC Tryz.prog 25 [ω A n K] h Q:=by
 have hl:=hs.len;refine yE ⟨λm A' n' K' x h1=>∃i:Nat,x=i/\i<=n/\n' = i/\m=n - i/\ay gm h1 (ai A') 160 A' i K' (xs.take i)/\(∀z,ai A' z->h.next<=z)/\Nw h h1,n,⟨0,rfl,Nat.zero_le _,rfl,rfl,ay.nil _ _ _ _,λz hz=>hz.elim,Nw.refl _⟩,?_⟩;rintro m A' n' K' x h1 ⟨i,rfl,hi,rfl,rfl,o1,lo1,k1⟩;refine⟨λhlt=>?_,λhge=>?_⟩
 .obtain⟨b,of,x,hA,-,hlb,hx,hc,-⟩:=(hs.nw k1).chg (k:=n') U;have c:=λj u (hj:(go x)[j]? = Y u)=>hc j u hj;refine⟨n',rfl,b,of,hA,U,_,c 0 _ rfl,U,_,c 1 _ rfl,U,_,c 2 _ rfl,U,_,c 3 _ rfl,U,_,c 4 _ rfl,λh2 e2=>?_⟩;obtain⟨k2,g2,z2⟩:=aj e2;have hz:Sz gm (λz=>z=h1.next) h2 (Y ⟨h1.next,0,ξ⟩) 1 2 [x]:=Sz.one (cells:=go x) g2 rfl U rfl rfl;obtain⟨A3,K3,h3,y1,y2,y3,y4⟩:=bq Es Mo (o1.nw k2) hz U U;have z1:=k1.next;refine⟨A3,_,K3,h3,y1,_,iO U,n - (n' + 1),U,n' + 1,rfl,U,rfl,rfl,?_,λz hz=>?_,?_⟩
  .rw[List.take_add_one,hx];exact y2
  .rcases y4 z hz with h | h
   .exact lo1 z h
   .omega
  .exact y3.is_nw (k1.trans k2) λz hz=>lo1 z hz
 .obtain rfl:n' = n:=U;have e:xs.take n' = xs:=List.take_of_length_le U;rw[e]at o1;exact hK _ _ _ (o1.sa.mono λz hz _=>lo1 z hz) k1
theorem Ey {h0 hb:AH}{sz:Nat}(hE:N.size p=sz) (R:mo h0 hb g o C costs N p) (a:Nw hb h) (hna3:N.na<=300) (hsz:sz<1000000){Fl:Nat->Prop}(hs:Sz gm Fl h A n K xs) (hFl:∀z,Fl z->z<h0.next\/hb.next<=z)
  (hK1:∀C' costs' cnt h',cO N xs->mo h0 h' g o C' costs' (N.step xs) p->Mt (λz=>h0.next<=z/\z<hb.next) h h'->Q (.tuple #[ω (Y ⟨C',0,ξ⟩) sz (cx sz),η ν cnt,.nilIface]) h')
  (hK2:∀t u h',¬cO N xs->mo h0 h' g o C costs (N.step xs) p->Nw h h'->Q (.tuple #[ω ξ 0 0,η ν 0,.iface t u]) h') :
  WC Tryz.prog 24 [ψ (Y ⟨g,0,ξ⟩),ψ (Y ⟨o,0,ξ⟩),ω (Y ⟨C,0,ξ⟩) sz (cx sz),ω A n K] h Q:=by
 subst hE;refine Gh R a hna3 hsz hs hFl (λB C' costs' cnt h' R' m=>hK1 C' costs' cnt h' B ?_ m) λnB t u h' k=>hK2 t u h' nB ?_ k
 .unfold ab.step;rw[if_pos B];exact R'
 .unfold ab.step;rw[if_neg nB];obtain⟨⟨Fa,Ft,F',X,lo,Fo,O,lo2,nC⟩,cs,cp,co,nn⟩:=R;have k':=a.trans k;have:=k'.next;exact⟨⟨Fa,Ft,F',X.nw k',lo,Fo,O.nw k',lo2,nC⟩,k'.bk cp.2 cs,⟨cp.1,U⟩,co,nn⟩
theorem Ie (Z:jr h F Av nv Kv Aa na Ka At nt Kt N) (hf:yT N) (ok:N.Ok) (hna:0<na) (hs:Sz (Rc.sliceZ cI) G h Ap np Kp p) (hp:aP N.nv p){H:Nat->Prop}(hl:Sz (Rc.sliceZ gm) H h Al nl Kl ls) (hl6:nl<=1000) (hl3:∀l∈ls,l.length<=300)
  (hK:∀g o C costs h',mo h h' g o C costs (N.behind ls) p->Nw h h'->Q (.tuple #[ψ (Y ⟨g,0,ξ⟩),ψ (Y ⟨o,0,ξ⟩),ω (Y ⟨C,0,ξ⟩) (N.size p) (cx (N.size p)),.bool true]) h') :
  WC Tryz.prog 8 [.agg #[ω Av nv Kv,ω Aa na Ka,ω At nt Kt],.agg #[ω Ap np Kp],ω Al nl Kl] h Q:=by
 have hll:=hl.len;have hsz:N.size p<1000000:=ml hf.2.1 hp.few;refine xN λh1 e1 h2 e2=>?_;obtain⟨k1,g1,z1⟩:=aj e1;obtain⟨k2,g2,z2⟩:=aj e2;have k12:=k1.trans k2;have z12:=k12.next;have g12:=k2.bk U g1;refine⟨_,_,_,_,_,_,_,_,_,bi (aa g12 rfl) (aa g12 rfl) (aa g12 rfl),_,_,_,fK (aa g2 rfl),Er (Z.nw k12) hf ok hna (hs.nw k12) hp λg o C costs h3 R k3=>⟨_,_,_,_,_,_,rfl,λ_=>?_,λh=>Bool.noConfusion h⟩⟩;refine⟨λm A n K x h4=>∃(i C:Nat) (costs:List Int),A=Y ⟨C,0,ξ⟩/\n=N.size p/\K=cx (N.size p)/\x=i/\i<=nl/\m=nl - i/\mo h2 h4 g o C costs (N.behind (ls.take i)) p/\Nw h2 h4,nl,⟨0,C,costs,rfl,rfl,rfl,rfl,Nat.zero_le _,rfl,R,k3⟩,?_⟩;rintro m A n K x h4 ⟨i,C,costs,rfl,rfl,rfl,rfl,hi,rfl,R4,k4⟩;have z4:=k4.next;refine⟨λhlt=>?_,λhge=>?_⟩
 .have hi':i<nl:=U;obtain⟨b,of,A',n',K',l,hA,-,-,hx,l0,sl⟩:=(hl.nw (k12.trans k4)).rowZ hi';have hl300:=hl3 l (List.mem_of_getElem? hx);have hn':=sl.len;have S:=ab.behind_shp (ls.take i) N;have htk:N.behind (ls.take (i+1))=(N.behind (ls.take i)).step l:=by rw[List.take_add_one,hx];exact ab.behind_snoc _ _ _
  refine⟨i,rfl,b,of,hA,hi',_,_,_,l0,JI sl U λA5 K5 h5 s5 k5=>⟨_,_,_,rfl,?_⟩⟩;refine Ey (by rw[S.size]) R4 k5 (by rw[S.na];exact hf.2.1) hsz s5.z (λz hz=>.inr hz) (λC' costs' cnt h6 B R6 m6=>⟨_,_,_,_,ξ,rfl,λ_=>⟨_,iO U,nl - (i+1),U,i+1,C',costs',rfl,rfl,rfl,rfl,U,rfl,by rw[htk];exact R6,m6.is_nw (k4.trans k5) λz hz=>hz.1⟩,λt u h=>by cases h⟩) λt u h6 nB R6 k6=>⟨_,_,_,_,Y (t,u),rfl,(λh=>by cases h),λt' u' e=>⟨_,iO U,nl - (i+1),U,i+1,C,costs,rfl,rfl,rfl,rfl,U,rfl,by rw[htk];exact R6,(k4.trans k5).trans k6⟩⟩
 .obtain rfl:i=nl:=U;have e:ls.take i=ls:=List.take_of_length_le U;rw[e]at R4;exact hK g o C costs h4 (R4.lower U) (k12.trans k4)
end
end Eva
end
section
open Go Go.RowKit
def cU (p:List (List Int)) (v:Nat) (ms:List Nat):Nat->Nat
 | 0=>0
 | k+1=>if ∀m∈ms,aG p (k+1) v≠aG p (k+1) m then k+1 else cU p v ms k
theorem mr (p:List (List Int)) (v:Nat) (ms:List Nat):∀k,cU p v ms k<=k
 | 0=>Nat.le_refl _
 | k+1=>by
  unfold cU
  split
  .exact Nat.le_refl _
  .exact Nat.le_trans (mr p v ms k) (Nat.le_succ _)
theorem xj {p:List (List Int)}{v:Nat}{ms:List Nat}:∀{k:Nat},0<cU p v ms k->∀m∈ms,aG p (cU p v ms k) v≠aG p (cU p v ms k) m
 | 0,h=>absurd h (Nat.lt_irrefl 0)
 | k+1,h=>by
  unfold cU at h⊢
  split
  .assumption
  .rename_i hn;rw[if_neg hn]at h;exact xj h
theorem xk {p:List (List Int)}{v:Nat}{ms:List Nat}:∀{k j:Nat},cU p v ms k<j->j<=k->∃m,m∈ms/\aG p j v=aG p j m
 | 0,j,h1,h2=>U
 | k+1,j,h1,h2=>by
  unfold cU at h1
  split at h1
  .omega
  .rename_i hn;by_cases hj:j=k+1
   .subst hj;exact Classical.byContradiction λhc=>hn λm hm e=>hc ⟨m,hm,e⟩
   .exact xk h1 U
def ab.levM (N:ab) (p:List (List Int)) (ms:List Nat) (v:Nat):Nat:=cU p (min v (N.nv - 1)) ms p.length
section
variable {N:ab}{p:List (List Int)}{ent:Nat->Nat->Nat->Int}
theorem DM.leapsM (hok:N.Ok) (hp:aP N.nv p) (he:DM N p ent){ms:List Nat}(hn:0<N.nv) (hms:∀m∈ms,m<N.nv) :
  kS bl p.length N.e (N.lp p ent (N.levM p ms)) N.fr N.to (λk v=>aG p k (min v (N.nv - 1))) (N.levM p ms) (λm=>m∈ms):=by
 have lt:∀a,N.to a<N.nv/\N.fr a<N.nv:=λa=>by
  by_cases ha:a<N.na
  .exact⟨(ab.to_lt hok ha).1,(ab.fr_lt hok ha).1⟩
  .have:N.arc a=(0,0,0):=by simp[ab.arc,List.getElem?_eq_none (Nat.le_of_not_lt ha)]
   simp[ab.to,ab.fr,this];omega
 have mn:∀v,v<N.nv->min v (N.nv - 1)=v:=λv hv=>U;have hw:∀k c a,(aG p k (min (N.fr a) (N.nv - 1))=c/\aG p k (min (N.to a) (N.nv - 1))=c)↔N.win p k c a:=λk c a=>by
  rw[mn _ (lt a).1,mn _ (lt a).2];rfl
 refine⟨λa b x h=>ab.e_ends h,λl k u v h1 h2 h3 h4=>gI hp h1 h2 h3 U U h4,λv=>mr _ _ _ _,λv hv=>?_,λv k h1 h2=>?_,λa b x hl h=>?_,λa d c b y hl hin hw0 hy hfb htb hI=>?_⟩
 .intro m hm;show aG p _ (min v (N.nv - 1))≠aG p _ (min m (N.nv - 1));rw[mn _ (hms m hm)];exact xj hv m hm
 .obtain⟨m,hm,e⟩:=xk h1 h2;refine⟨m,hm,?_⟩;show aG p _ (min v (N.nv - 1))=aG p _ (min m (N.nv - 1));rw[mn _ (hms m hm)];exact e
 .unfold ab.lp at h
  split at h
  .rename_i hc;obtain⟨ha,hb,h1,h2,h3,h4⟩:=hc;injection h with h;have T:=he _ a b hl (mr _ _ _ _) ha hb h1 h2;obtain⟨d,c,y,g1,g2,g3⟩:=T.way h3;refine⟨d,c,y+(N.w b).toNat,g1.mono λd hd=>?_,?_,?_⟩
   .have h9:=(hw _ _ d).2 hd;simpa only[mn (N.to a) (lt a).1]using h9
   .obtain⟨k1,rfl⟩:=ab.tr_some.1 g2;exact ab.e_some.2 ⟨k1,h4,rfl⟩
   .omega
  .cases h
 .obtain⟨k1,k2,rfl⟩:=ab.e_some.1 hy;have ha:a<N.na:=by
   rcases hw0.start with rfl | ⟨b',x',hx⟩
   .exact(ab.turn_in k1).1
   .exact(ab.turn_in (ab.e_some.1 hx).1).1
  have hb:b<N.na:=(ab.turn_in k1).2.1;simp only[mn _ (lt _).1,mn _ (lt _).2]at hin hfb htb;have T:=he _ a b hl (mr _ _ _ _) ha hb ⟨rfl,hin⟩ ⟨hfb,htb⟩;have h5:=T.least d c _ (hw0.mono λd hd=>(by
   have h9:=hd;simp only[mn (N.to a) (lt a).1]at h9;exact(hw _ _ d).1 h9)) (ab.tr_some.2 ⟨k1,rfl⟩)
  have h6:=T.bd;have hI2:c+((N.turn d b).toNat+(N.w b).toNat)<1152921504606846976:=hI;have h7:ent (N.levM p ms (N.to a)) a b<aT:=by
   show _<(1152921504606846976:Int);omega
  refine⟨_,by rw[ab.lp,if_pos ⟨ha,hb,⟨rfl,hin⟩,⟨hfb,htb⟩,h7,k2⟩],?_⟩;omega
end
end
section
open Go Go.RowKit
def Ez (s:cm):List Value:=[η ν s.1,η ν s.2.1,η ν s.2.2]
def eI (hs:List cm):List Value:=hs.flatMap Ez
theorem xl:∀{hs:List cm}{cells:List Value},cells.length=hs.length*3->(∀k s,hs[k]? = Y s->(cells.drop (k*3)).take 3=Ez s)->cells=eI hs
 | [],cells,hl,_=>List.eq_nil_of_length_eq_zero (by simpa using hl)
 | s :: hs,cells,hl,hx=>by
  have h0:=hx 0 s rfl;rw[Nat.zero_mul,List.drop_zero]at h0;have h1:cells.drop 3=eI hs:=xl (by rw[List.length_drop,hl,List.length_cons];omega) λk u hk=>by
   rw[List.drop_drop];have:=hx (k+1) u hk
   rwa [show(k+1)*3=3+k*3 by omega]at this
  show cells=Ez s ++ eI hs;rw[<-h0,<-h1,List.take_append_drop]
theorem tE:∀{hs:List cm}{k:Nat}{s:cm},hs[k]? = Y s->((eI hs).drop (k*3)).take 3=Ez s
 | [],k,s,h=>by simp at h
 | u :: hs,0,s,h=>by
  obtain rfl:=Option.some.inj h;rfl
 | u :: hs,k+1,s,h=>by
  have ih:=tE (hs:=hs) (k:=k) (s:=s) h;show((Ez u ++ eI hs).drop ((k+1)*3)).take 3=_;rw[show(k+1)*3=3+k*3 by omega,<-List.drop_drop];exact ih
namespace Eva
section
variable {h h' h0:AH}{Q:Value->AH->Prop}{A:Option Addr}{n K:Nat}{hs:List cm}{t:TypeId}
theorem Gi {F:Nat->Prop}{g:Nat}(hb:Bk h g (eI hs) t) (hF:F g) (hg:g<h.next) (K:Nat):Sa aS F h (Y ⟨g,0,ξ⟩) hs.length K hs:=Sa.of_bk hb rfl hF hg λk s hk=>tE hk
end
end Eva
end
section
open Go Go.RowKit
def xm (N:ab) (c:Nat) (ol:List Nat) (pr:List Int) (i:Nat):Option (Nat×Nat):=
 match ol[i]?,pr[i]? with
 | some b,Y x=>if kR [(c:Int),x,N.w b]<aT then Y (b,(kR [(c:Int),x,N.w b]).toNat) else ξ
 | _,_=>ξ
def rf (N:ab) (c:Nat) (ol:List Nat) (pr:List Int) (j:Nat):List (Nat×Nat):=(List.range j).filterMap (xm N c ol pr)
theorem nV (N:ab) (c:Nat) (ol:List Nat) (pr:List Int) (j:Nat):rf N c ol pr (j+1)=rf N c ol pr j ++ (xm N c ol pr j).toList:=by
 unfold rf;rw[List.range_succ,List.filterMap_append];cases h:xm N c ol pr j <;>simp[List.filterMap_cons,h]
theorem If {c x w:Int}(hc:0<=c/\c<=aT) (hx:0<=x/\x<=aT) (hw:0<=w/\w<=aT):kR [c,x,w]=min (c+x+w) aT:=by
 unfold aT at *;show iU (iU (iU 0 c) x) w=_;rw[jm,jm,jm,dP (a:=0) U U,dP hc.1 hc.2,dP hx.1 hx.2,dP hw.1 hw.2,dP (a:=min (0+c) 1152921504606846976) U U,dP (a:=min (min (0+c) 1152921504606846976+x) 1152921504606846976) U U];omega
theorem xp {N:ab}{c n b y:Nat}{ol:List Nat}{pr:List Int}:(b,y)∈rf N c ol pr n↔∃i x,i<n/\ol[i]? = Y b/\pr[i]? = Y x/\kR [(c:Int),x,N.w b]<aT/\y=(kR [(c:Int),x,N.w b]).toNat:=by
 unfold rf;rw[List.mem_filterMap];constructor
 .rintro⟨i,hi,h⟩;unfold xm at h;cases h1:ol[i]? with
  | none=>rw[h1]at h;cases h
  | some b'=>
   cases h2:pr[i]? with
   | none=>rw[h1,h2]at h;cases h
   | some x=>
    rw[h1,h2]at h;simp only at h;by_cases h3:kR [(c:Int),x,N.w b']<aT
    .rw[if_pos h3]at h;obtain h4:=Option.some.inj h;injection h4 with h5 h6;subst h5;exact⟨i,x,by simpa using hi,h1,h2,h3,h6.symm⟩
    .rw[if_neg h3]at h;cases h
 .rintro⟨i,x,hi,h1,h2,h3,rfl⟩;refine⟨i,by simpa using hi,?_⟩;unfold xm;rw[h1,h2];simp only;rw[if_pos h3]
namespace Eva
end Eva
end
section
open Go Go.RowKit
noncomputable def ab.leV (N:ab) (p:List (List Int)) (costs:List Int) (lv:Nat->Nat) (a b:Nat):Option Nat:=iM N.e (N.lp p (N.ent p costs) lv) N.to lv a b
structure oM (N:ab) (p:List (List Int)) (costs:List Int) (lv:Nat->Nat) (a:Nat) (ol:List Nat) (pr:List Int):Prop where
 len:pr.length=ol.length
 lt:∀b∈ol,b<N.na
 nn:∀x∈pr,0<=x/\x<=aT
 here:∀(i b:Nat) (x:Int),ol[i]? = Y b->pr[i]? = Y x->x<aT->N.w b<aT->N.leV p costs lv a b=Y (x.toNat+(N.w b).toNat)
 all:∀(b y:Nat),N.leV p costs lv a b=Y y->∃(i:Nat) (x:Int),ol[i]? = Y b/\pr[i]? = Y x/\x<aT/\N.w b<aT/\y=x.toNat+(N.w b).toNat
 few:ol.length<=N.na
section
variable {N:ab}{p:List (List Int)}{costs:List Int}{lv:Nat->Nat}{a:Nat}
theorem yY (hok:N.Ok) (ha:a<N.na) (hl:lv (N.to a)=0):oM N p costs lv a (N.from_ (N.to a)) ((N.from_ (N.to a)).map λb=>N.turn a b):=by
 refine⟨by simp,λb hb=>((ab.mem_from hok).1 hb).1,λx hx=>?_,λi b x hi hx h1 h2=>?_,λb y hy=>?_,aL _ _⟩
 .obtain⟨b,-,rfl⟩:=List.mem_map.1 hx;have:=ab.turn_bd hok a b;unfold aT at *;omega
 .rw[List.getElem?_map,hi]at hx;obtain rfl:=Option.some.inj hx;unfold ab.leV iM;rw[if_pos hl];exact ab.e_some.2 ⟨h1,h2,rfl⟩
 .unfold ab.leV iM at hy;rw[if_pos hl]at hy;obtain⟨h1,h2,rfl⟩:=ab.e_some.1 hy;obtain⟨-,t2,t3⟩:=ab.turn_in h1;obtain⟨i,hi⟩:=List.getElem?_of_mem ((ab.mem_from hok).2 ⟨t2,t3.symm⟩);exact⟨i,_,hi,by rw[List.getElem?_map,hi];rfl,h1,h2,rfl⟩
theorem yZ (hl:lv (N.to a)≠0) (h:a ∉ N.ins p (lv (N.to a)) (aG p (lv (N.to a)) (N.to a))\/N.outs p (lv (N.to a)) (aG p (lv (N.to a)) (N.to a)) = []):oM N p costs lv a [] []:=by
 refine⟨rfl,by simp,by simp,by simp,λb y hy=>?_,Nat.zero_le _⟩;unfold ab.leV iM at hy;rw[if_neg hl]at hy;obtain⟨h1,h2,h3,h4,-⟩:=vd.1 hy;exfalso;rcases h with h | h
 .exact h (ab.mem_ins.2 ⟨h1,h3⟩)
 .have:=ab.mem_outs.2 ⟨h2,h4⟩;rw[h]at this;cases this
theorem xq (hlv:∀v,lv v<=p.length) (hok:N.Ok) (hp:aP N.nv p) (hco:cZ N p costs) (ha:a<N.na){l c:Nat}(hl:lv (N.to a)=l) (hl0:l≠0) (hc:aG p l (N.to a)=c) (hin:a∈N.ins p l c) :
  oM N p costs lv a (N.outs p l c) ((costs.drop (N.start p l c+(N.ins p l c).idxOf a*(N.outs p l c).length)).take (N.outs p l c).length):=by
 have hll:l<=p.length:=by rw[<-hl];exact hlv _
 have hto:=(ab.to_lt hok ha).1;have hcm:c<au p l:=by rw[<-hc];exact fu hp U hll hto
 have hse:=ab.start_end (N:=N) (p:=p) (k:=l) U hll hcm;have hidx:=List.idxOf_lt_length_of_mem hin;have hmul:((N.ins p l c).idxOf a+1)*(N.outs p l c).length<=(N.ins p l c).length*(N.outs p l c).length:=Nat.mul_le_mul_right _ hidx;rw[Nat.succ_mul]at hmul;unfold ab.sz at hse;have hlen:=hco.1;have get:∀{i:Nat},i<(N.outs p l c).length->((costs.drop (N.start p l c+(N.ins p l c).idxOf a*(N.outs p l c).length)).take (N.outs p l c).length)[i]? = Y (at_ costs (N.start p l c+((N.ins p l c).idxOf a*(N.outs p l c).length+i))):=fun {i} hi=>by
  rw[List.getElem?_take,if_pos hi,List.getElem?_drop,Nat.add_assoc];unfold at_;rw[List.getElem?_eq_getElem U];rfl
 have ent:∀{i b:Nat},(N.outs p l c)[i]? = Y b->N.ent p costs l a b=at_ costs (N.start p l c+((N.ins p l c).idxOf a*(N.outs p l c).length+i)):=fun {i b} hi=>by
  unfold ab.ent;have e:(N.outs p l c).idxOf b=i:=iu (bH _ _) (aW (List.mem_of_getElem? hi)) hi;rw[hc,e]
 refine⟨by rw[List.length_take,List.length_drop];omega,λb hb=>(ab.mem_outs.1 hb).1,λx hx=>?_,λi b x hi hx h1 h2=>?_,λb y hy=>?_,aL _ _⟩
 .obtain⟨i,hi⟩:=List.getElem?_of_mem hx;have hil:i<(N.outs p l c).length:=by
   have:=(List.getElem?_eq_some_iff.1 hi).1;rw[List.length_take]at this;omega
  rw[get hil]at hi;obtain rfl:=Option.some.inj hi;exact(hco.2 l c U hll hcm _ i a _ (aW hin) (List.getElem?_eq_getElem hil)).bd
 .rw[get (List.getElem?_eq_some_iff.1 hi).1]at hx;have hx':=Option.some.inj hx;unfold ab.leV iM;rw[if_neg (by rw[hl];exact hl0)];obtain⟨o1,o2⟩:=ab.mem_outs.1 (List.mem_of_getElem? hi);refine vd.2 ⟨ha,o1,?_,?_,?_,h2,?_⟩
  .rw[hl,hc];exact(ab.mem_ins.1 hin).2
  .rw[hl,hc];exact o2
  .rw[hl,ent hi,hx'];exact h1
  .rw[hl,ent hi,hx']
 .unfold ab.leV iM at hy;rw[if_neg (by rw[hl];exact hl0)]at hy;obtain⟨h1,h2,h3,h4,h5,h6,rfl⟩:=vd.1 hy;rw[hl,hc]at h4;rw[hl]at h5⊢;obtain⟨i,hi⟩:=List.getElem?_of_mem (ab.mem_outs.2 ⟨h2,h4⟩);refine⟨i,_,hi,get (List.getElem?_eq_some_iff.1 hi).1,?_,h6,?_⟩
  .rw[<-ent hi];exact h5
  .rw[<-ent hi]
end
section
variable {N:ab}{p:List (List Int)}{costs:List Int}{lv:Nat->Nat}{a c:Nat}{ol:List Nat}{pr:List Int}
theorem oM.put (hR:oM N p costs lv a ol pr) (hok:N.Ok) (hc:c<bl){b x:Nat}(h:N.leV p costs lv a b=Y x) (hx:c+x<bl):(b,c+x)∈rf N c ol pr ol.length:=by
 obtain⟨i,y,h1,h2,h3,h4,rfl⟩:=hR.all b x h;have hy:=hR.nn y (List.mem_of_getElem? h2);have hw:=ab.w_bd hok b;have h5:=If (c:=(c:Int)) (x:=y) (w:=N.w b) (by unfold aT bl at *;omega) hy (by unfold aT at *;omega);refine xp.2 ⟨i,y,(List.getElem?_eq_some_iff.1 h1).1,h1,h2,?_,?_⟩
 .rw[h5];unfold aT bl at *;omega
 .rw[h5];unfold aT bl at *;omega
theorem oM.step (hR:oM N p costs lv a ol pr) (hok:N.Ok) (hc:c<bl){b y:Nat}(h:(b,y)∈rf N c ol pr ol.length):y<bl/\b<N.na/\∃x,N.leV p costs lv a b=Y x/\y=c+x:=by
 obtain⟨i,x,hi,h1,h2,h3,rfl⟩:=xp.1 h;have hy:=hR.nn x (List.mem_of_getElem? h2);have hw:=ab.w_bd hok b;have h5:=If (c:=(c:Int)) (x:=x) (w:=N.w b) (by unfold aT bl at *;omega) hy (by unfold aT at *;omega);rw[h5]at h3⊢;refine⟨by unfold aT bl at *;omega,hR.lt b (List.mem_of_getElem? h1),_,hR.here i b x h1 h2 (by unfold aT at *;omega) (by unfold aT at *;omega),by unfold aT at *;omega⟩
end
def iG (N:ab) (s t d:Nat):Prop:=(N.w s<aT->jk bl N.e s t d)/\(aT<=N.w s->d=bl)
theorem iG.one {N:ab}{s t d d':Nat}(h:iG N s t d) (h':iG N s t d'):d=d':=by
 by_cases hw:N.w s<aT
 .exact(h.1 hw).one (h'.1 hw)
 .rw[h.2 (Int.not_lt.1 hw),h'.2 (Int.not_lt.1 hw)]
theorem iG.le {N:ab}{s t d:Nat}(h:iG N s t d):d<=bl:=by
 by_cases hw:N.w s<aT
 .exact(h.1 hw).le
 .rw[h.2 (Int.not_lt.1 hw)];exact Nat.le_refl _
def ab.mks (N:ab) (s:Nat) (ts:List Nat):List Nat:=N.to s :: ts.map N.fr
theorem ab.mks_lt {N:ab}(hok:N.Ok){s:Nat}{ts:List Nat}(hs:s<N.na) (ht:∀t∈ts,t<N.na):∀m∈N.mks s ts,m<N.nv:=by
 intro m hm;unfold ab.mks at hm;rcases List.mem_cons.1 hm with rfl | hm
 .exact(ab.to_lt hok hs).1
 .obtain⟨t,h1,rfl⟩:=List.mem_map.1 hm;exact(ab.fr_lt hok (ht t h1)).1
theorem Gj {N:ab}{p:List (List Int)}{costs:List Int}(hok:N.Ok) (hp:aP N.nv p) (hco:cZ N p costs){s t d:Nat}{ts:List Nat}(hs:s<N.na) (hts:∀t∈ts,t<N.na) (ht:t∈ts) (h:jk bl (N.leV p costs (N.levM p (N.mks s ts))) s t d):jk bl N.e s t d:=
 ((hco.entOk hok hp).leapsM hok hp (Nat.lt_of_le_of_lt (Nat.zero_le _) (ab.to_lt hok hs).1) (ab.mks_lt hok hs hts)).law (List.mem_cons_self ..) (List.mem_cons_of_mem _ (List.mem_map_of_mem ht)) h
theorem EA (N:ab) (p:List (List Int)) (ms:List Nat) (v:Nat):N.levM p ms v<=p.length:=mr _ _ _ _
theorem Gk {N:ab}{p:List (List Int)}{ms:List Nat}(hok:N.Ok){a:Nat}(ha:a<N.na):N.levM p ms (N.to a)=cU p (N.to a) ms p.length:=by
 unfold ab.levM;have:=(ab.to_lt hok ha).1;rw[Nat.min_eq_left U]
end
section
open Go Go.RowKit
def gq (p:List (List Int)) (k:Nat) (ms:List Nat) (c:Nat):Option Value:=if c∈ms.map (aG p k) then Y (η ν 1) else ξ
theorem oN (p:List (List Int)) (k:Nat) (ms:List Nat) (m:Nat):(λc=>if c=aG p k m then Y (η ν 1) else gq p k ms c)=gq p k (ms ++ [m]):=by
 funext c
 unfold gq;by_cases h:c=aG p k m
 .rw[if_pos h,if_pos (by rw[h];exact List.mem_map_of_mem (by simp))]
 .rw[if_neg h];have:c∈(ms ++ [m]).map (aG p k)↔c∈ms.map (aG p k):=by
   rw[List.map_append,List.mem_append];exact⟨λh'=>h'.elim id λh2=>absurd (by simpa using h2) h,.inl⟩
  by_cases h2:c∈ms.map (aG p k)
  .rw[if_pos h2,if_pos (this.2 h2)]
  .rw[if_neg h2,if_neg (λh3=>h2 (this.1 h3))]
theorem mu {α:Type}{xs:List α}{n:Nat}{z v:α}(hn:xs.length<n):(xs ++ List.replicate (n - xs.length) z).set xs.length v=(xs ++ [v]) ++ List.replicate (n - (xs.length+1)) z:=by
 rw[List.set_append_right _ _ (Nat.le_refl _),Nat.sub_self,show n - xs.length=(n - (xs.length+1))+1 by omega,List.replicate_succ,List.set_cons_zero,List.append_assoc];rfl
namespace Eva
structure MQ (h0:AH) (N:ab) (p:List (List Int)) (g o C:Nat) (ts:List Nat) (tA:Option Addr) (tK q mp:Nat) (cA:Option Addr) (cK:Nat) (D:Nat->Prop) (h:AH):Prop where
 nw:Nw h0 h
 blk:Bk h q [ψ (Y ⟨g,0,ξ⟩),ψ (Y ⟨o,0,ξ⟩),ω (Y ⟨C,0,ξ⟩) (N.size p) (cx (N.size p)),.slice tA ts.length tK,.slice cA p.length cK,.map (Y mp)] 263
 cells:Sa aM D h cA p.length cK p
 map_:∃f,cX Lb h mp f/\∀l c v,f (l,c)=Y v->Ia N p D h l c v
 ts_:Sa cI (λb=>b<h0.next) h0 tA ts.length tK (ints ts)
 dlo:∀b,D b->h0.next<=b/\b<h.next/\b≠q/\b≠mp
 pos:h0.next<=q/\h0.next<=mp/\q≠mp/\q<h.next/\mp<h.next
structure di (h:AH) (E:Nat->Prop) (TB:Nat) (p:List (List Int)) (ms:List Nat):Prop where
 blk:∃rs:List Nat,rs.length=p.length/\Bk h TB (rs.map λr=>.map (Y r)) 264/\∀i r,rs[i]? = Y r->E r/\r<h.next/\cX kN h r (gq p (i+1) ms)
 own:E TB/\TB<h.next
section
variable {h h' h0:AH}{Q:Value->AH->Prop}{Fa F Fo E:Nat->Prop}{N:ab}{p:List (List Int)}{ts ms:List Nat}{g o C s q mp tK TB:Nat}{cA tA:Option Addr}{cK:Nat}{D:Nat->Prop}{a:Nat}
theorem di.keep (B:di h E TB p ms) (hk:∀b,E b->b<h.next->h'.get b=h.get b) (hn:h.next<=h'.next):di h' E TB p ms:=by
 obtain⟨⟨rs,h1,h2,h3⟩,h4,h5⟩:=B;refine⟨⟨rs,h1,(hk _ h4 h5).trans h2,λi r hr=>?_⟩,h4,U⟩;obtain⟨k1,k2,k3⟩:=h3 i r hr;exact⟨k1,U,k3.keep (hk r k1 k2)⟩
theorem di.nw (B:di h E TB p ms) (a:Nw h h'):di h' E TB p ms:=B.keep (λb _ hb=>a.get b hb) a.next
theorem di.off {S:Nat->Prop}(B:di h E TB p ms) (a:Mt S h h') (hS:∀b,E b->¬S b):di h' E TB p ms:=B.keep (λb hE hb=>a.get b hb (hS b hE)) a.next
theorem MQ.off {S:Nat->Prop}(B:MQ h0 N p g o C ts tA tK q mp cA cK D h) (m:Mt S h h') (hS:∀b,S b->h0.next<=b/\b≠q/\b≠mp/\¬D b):MQ h0 N p g o C ts tA tK q mp cA cK D h':=by
 obtain⟨p1,p2,p3,p4,p5⟩:=B.pos;have z:=m.next;have nD:∀{b},D b->¬S b:=λhd hs=>(hS _ hs).2.2.2 hd;obtain⟨f,f1,f2⟩:=B.map_;refine⟨m.is_nw B.nw λb hb=>(hS b hb).1,m.bk p4 (λhs=>(hS _ hs).2.1 rfl) B.blk,B.cells.off m λb hb=>nD hb,⟨f,f1.keep (m.get _ p5 (λhs=>(hS _ hs).2.2.1 rfl)),λl c v hv=>?_⟩,B.ts_,λb hb=>by have:=B.dlo b hb;omega,U⟩;obtain⟨A,K,B',L,e,s1,s2⟩:=f2 l c v hv;exact⟨A,K,B',L,e,s1.off m λb hb=>nD hb,s2.off m λb hb=>nD hb⟩
theorem MQ.next (B:MQ h0 N p g o C ts tA tK q mp cA cK D h) (a:Nw h h'):MQ h0 N p g o C ts tA tK q mp cA cK D h':=B.off (S:=λ_=>False) (Mt.of a) (λb hb=>hb.elim)
theorem MQ.t_ (B:MQ h0 N p g o C ts tA tK q mp cA cK D h) (k1:Nw h0 h'){i:Nat}(hi:i<ts.length):∃b o t,tA=Y ⟨b,o,ξ⟩/\ts[i]? = Y t/\ldC h' b (o+i)=Y (η ν (t:Int)):=by
 obtain⟨b,o,x,rfl,hF,hb,hx,e⟩:=(B.ts_.nw k1).int (k:=i) hi;unfold ints at hx;rw[List.getElem?_map]at hx;cases hv:ts[i]? with
 | none=>rw[hv]at hx;cases hx
 | some t=>
  rw[hv]at hx;obtain rfl:=Option.some.inj hx;exact⟨b,o,t,rfl,rfl,e⟩
theorem Nw.ld {b o':Nat}{v:Value}(a:Nw h h') (hb:b<h.next) (e:Eva.ldC h b o' = Y v):Eva.ldC h' b o' = Y v:=(a.ldC hb o').trans e
theorem Hd (hp:aP N.nv p) (s:Sa aM D h cA p.length cK p){i v:Nat}(hi:i<p.length) (hv:v<N.nv):∃b o K b' o',cA=Y ⟨b,o,ξ⟩/\b<h.next/\b' < h.next/\ldC h b (o+i)=Y (ω (Y ⟨b',o',ξ⟩) N.nv K)/\∀u,u<N.nv->ldC h b' (o' + u)=Y (η ν ((aG p (i+1) u:Nat):Int)):=by
 obtain⟨b1,o1,A2,n2,K2,row,rfl,-,hb1,hr,e0,s2⟩:=s.row (k:=i) hi;have hr':p[i+1 - 1]? = Y row:=hr;obtain⟨hl,hx⟩:=eG hp hr';have hn2:n2=N.nv:=by rw[<-s2.len];exact hl
 subst hn2;obtain⟨b2,o2,-,rfl,-,hb2,-,-⟩:=s2.int (k:=v) hv;refine⟨b1,o1,K2,b2,o2,rfl,hb1,hb2,e0,λu hu=>?_⟩;obtain⟨b3,o3,y,hA,-,-,hy,e⟩:=s2.int (k:=u) hu;injection hA with hA;injection hA with h1 h2;subst h1 h2;obtain⟨v0,hv0,hv1,-⟩:=hx u hu;rw[hv0]at hy;obtain rfl:=Option.some.inj hy;rw[eh hr' hv0,Int.toNat_of_nonneg hv1];exact e
theorem Gl (B:MQ h0 N p g o C ts tA tK q mp cA cK D h) (hp:aP N.nv p) (T:di h E TB p ms){v:Nat}(hv:v<N.nv) (K:Nat) (hK:Q (η ν ((cU p v ms p.length:Nat):Int)) h) :
  WC Tryz.prog 136 [ψ (Y ⟨q,0,ξ⟩),ω (Y ⟨TB,0,ξ⟩) p.length K,η ν v] h Q:=by
 have hn6:=hp.few;have hnv:=hp.nv_;obtain⟨⟨rs,r1,r2,r3⟩,t1,t2⟩:=T;refine kK ⟨q,0,rfl,cA,p.length,cK,aa B.blk rfl,λm x h1=>∃k:Nat,x=k/\k<=p.length/\m=k/\cU p v ms p.length=cU p v ms k/\h1=h,p.length,⟨p.length,rfl,Nat.le_refl _,rfl,rfl,rfl⟩,?_⟩;rintro m x h1 ⟨k,rfl,hk,rfl,hlv,rfl⟩;refine⟨λhge=>?_,λhlt=>?_⟩
 .obtain⟨k,rfl⟩:∃k',m=k' + 1:=⟨m - 1,U⟩;have wk:IntKind.i64.wrap (((k+1:Nat):Int) - 1)=(k:Int):=by
   rw[show((k+1:Nat):Int) - 1=(k:Int) by omega];exact ae U U
  obtain⟨b,o,K',b',o',hA,-,-,e0,ev⟩:=Hd hp B.cells (i:=k) U hv;obtain⟨r,hr⟩:∃r,rs[k]? = Y r:=⟨_,List.getElem?_eq_getElem U⟩;obtain⟨-,-,mf⟩:=r3 k r hr;obtain⟨i,i1,i2⟩:=tB;have look:∃x6:Int,bp Tryz.prog (Y (.map 3 3)) (.map (Y r)) (η ν ((aG p (k+1) v:Nat):Int)) false h1=Y (η ν x6)/\(x6=0↔∀m∈ms,aG p (k+1) v≠aG p (k+1) m):=by
   have e:=mf.look wZ i1 i2 rfl (aG p (k+1) v) false;unfold gq at e;by_cases h:aG p (k+1) v∈ms.map (aG p (k+1))
   .rw[if_pos h]at e;refine⟨1,e,⟨λh2=>absurd h2 (by decide),λh2=>?_⟩⟩;obtain⟨m,h3,h4⟩:=List.mem_map.1 h;exact absurd h4.symm (h2 m h3)
   .rw[if_neg h]at e;exact⟨0,e,⟨λ_ m hm h2=>h (h2 ▸ List.mem_map_of_mem hm),λ_=>rfl⟩⟩
  obtain⟨x6,l1,l2⟩:=look;refine⟨cA,p.length,cK,aa B.blk rfl,_,wk,k,rfl,b,o,hA,U,_,_,_,e0,λh=>absurd h U,λ_=>⟨λh=>absurd h U,λ_=>⟨_,wk,k,rfl,TB,0,rfl,U,Y r,?_,v,rfl,b',o',rfl,hv,_,ev v hv,x6,l1,λhz=>?_,λhz=>⟨_,wk,k,U,k,rfl,U,rfl,?_,rfl⟩⟩⟩⟩
  .rw[Nat.zero_add,aJ r2,List.getElem?_map,hr];rfl
  .rw[hlv,cU,if_pos (l2.1 hz)]at hK;exact hK
  .rw[hlv,cU,if_neg λh=>hz (l2.2 h)]
 .obtain rfl:m=0:=U;rw[hlv]at hK;exact hK
theorem Gm (B:MQ h0 N p g o C ts tA tK q mp cA cK D h) (G:gS h0 Fa F g N) (hp:aP N.nv p) (hs:s<N.na) (hts:∀t∈ts,t<N.na) (htl:ts.length<=1000)
  (hK:∀TB h',di h' (λb=>h.next<=b) TB p (N.mks s ts)->Nw h h'->Q (ω (Y ⟨TB,0,ξ⟩) p.length (cx p.length)) h') :
  WC Tryz.prog 134 [ψ (Y ⟨q,0,ξ⟩),η ν s] h Q:=by
 have hok:=G.ok;have hn6:=hp.few;have hto:=(ab.to_lt hok hs).1;obtain⟨P1,P2,P3,P4,P5⟩:=B.pos;refine kJ ⟨q,0,rfl,cA,p.length,cK,aa B.blk rfl,U,λh1 e1=>?_⟩;obtain⟨k1,g1,z1⟩:=aj e1;rw[aQ]at g1;refine⟨cA,p.length,cK,aa (B.next k1).blk rfl,λm x h2=>∃(i:Nat) (rs:List Nat),x=i/\i<=p.length/\m=p.length - i/\rs.length=i/\Bk h2 h.next (rs.map (λr=>Value.map (Y r)) ++ List.replicate (p.length - i) (.map ξ)) 264/\Nw h h2/\h.next<h2.next/\(∀j r,rs[j]? = Y r->h.next<r/\r<h2.next/\cX kN h2 r (gq p (j+1) (N.mks s ts))),p.length,⟨0,[],rfl,Nat.zero_le _,rfl,rfl,g1,k1,U,λj r h=>by simp at h⟩,?_⟩;rintro m x h2 ⟨i,rs,rfl,hi,rfl,hrl,b2,k2,l2,hrs⟩;have z2:=k2.next;refine⟨λhlt=>?_,λhge=>?_⟩
 .have hil:i<p.length:=U;obtain⟨b,o',K',b',o2,hA,hb,hb',e0,ev⟩:=Hd hp B.cells hil hto;refine⟨i,rfl,b,o',hA,hil,_,_,_,k2.ld hb e0,λh3 e3=>⟨hil,?_⟩⟩;obtain⟨k3,g3,z3⟩:=aj e3;obtain⟨h4,s4,b4,z4,o4⟩:=ax (v:=.map (Y h2.next)) (k3.bk l2 b2) (o:=0+i) (by simp;omega) rfl;have b4':Bk h4 h.next ((rs ++ [h2.next]).map (λr=>Value.map (Y r)) ++ List.replicate (p.length - (i+1)) (.map ξ)) 264:=by
   have e:=mu (xs:=rs.map (λr=>Value.map (Y r))) (n:=p.length) (z:=.map ξ) (v:=.map (Y h2.next)) (by simp;omega);rw[List.length_map,hrl]at e;rw[Nat.zero_add,e]at b4;rw[List.map_append];exact b4
  have k4:Nw h h4:=⟨U,λb hb=>(o4 b U).trans ((k3.get b U).trans (k2.get b hb))⟩;have hm4:h4.get h2.next=Y (.map [] 0):=(o4 _ U).trans g3;have ldTB:∀h7,Mt (λb=>b=h2.next) h4 h7->ldC h7 h.next (0+i)=Y (.map (Y h2.next)):=λh7 m7=>by
   rw[Nat.zero_add,aJ (m7.bk U U b4'),List.getElem?_append_left (by simp;omega),List.getElem?_map,List.getElem?_append_right U,hrl,Nat.sub_self];rfl
  obtain⟨h6,y1,y2,y3,y4⟩:=(cX.new (κ:=kN) hm4).put (P:=Tryz.prog) (e:=3) wZ (aG p (i+1) (N.to s)) (η ν 1);have m6:Mt (λb=>b=h2.next) h4 h6:=⟨U,λb _ hb=>y4 b hb⟩;have y2':cX kN h6 h2.next (gq p (i+1) (N.to s :: (ts.take 0).map N.fr)):=by
   have e:=oN p (i+1) [] (N.to s);have e0:gq p (i+1) []=λ_=>none:=by funext c;unfold gq;rw[if_neg (by simp)]
   rw[e0]at e;rw[e]at y2;exact y2
  refine⟨h4,s4,_,aa (B.next k4).blk rfl,GX (G.nw (B.nw.trans k4)) hs ⟨_,rfl,λ_=>⟨λ_=>⟨hil,Y h2.next,ldTB h4 (Mt.refl _ _),N.to s,rfl,b',o2,rfl,hto,_,k4.ld hb' (ev _ hto),h6,y1,?_⟩,λh=>absurd h U⟩,λh=>absurd h U⟩⟩;have nw:∀{h7},Mt (λb=>b=h2.next) h4 h7->Nw h h7:=λm7=>m7.is_nw k4 λb hb=>U;refine⟨tA,ts.length,tK,aa (B.next (nw m6)).blk rfl,λm x h7=>∃j:Nat,x=j/\j<=ts.length/\m=ts.length - j/\cX kN h7 h2.next (gq p (i+1) (N.to s :: (ts.take j).map N.fr))/\Mt (λb=>b=h2.next) h4 h7/\h7.next=h4.next,ts.length,⟨0,rfl,Nat.zero_le _,rfl,y2',m6,y3⟩,?_⟩;rintro m x h7 ⟨j,rfl,hj,rfl,f7,m7,z7⟩;refine⟨λhlt=>?_,λhge=>?_⟩
  .have hjl:j<ts.length:=U;obtain⟨b3,o3,t,hA3,ht,e3⟩:=B.t_ (B.nw.trans (nw m7)) hjl;have htn:=hts t (List.mem_of_getElem? ht);have hfr:=(ab.fr_lt hok htn).1;obtain⟨h9,y1,y2,y3,y4⟩:=f7.put (P:=Tryz.prog) (e:=3) wZ (aG p (i+1) (N.fr t)) (η ν 1);rw[oN]at y2;refine⟨j,rfl,b3,o3,hA3,hjl,_,e3,_,aa (B.next (nw m7)).blk rfl,wR (G.nw (B.nw.trans (nw m7))) htn ⟨_,rfl,λ_=>⟨λ_=>⟨hil,Y h2.next,ldTB h7 m7,N.fr t,rfl,hfr,_,(nw m7).ld hb' (ev _ hfr),h9,y1,_,ae U U,ts.length - (j+1),U,j+1,U,hjl,rfl,?_,m7.trans ⟨U,λb _ hb=>y4 b hb⟩ λ_ h _=>h,U⟩,λh=>absurd h U⟩,λh=>absurd h U⟩⟩;rw[List.take_add_one,ht,List.map_append];exact y2
  .obtain rfl:j=ts.length:=U;rw[List.take_length]at f7;refine⟨_,ae U U,p.length - (i+1),U,i+1,rs ++ [h2.next],U,hil,rfl,by simp[hrl],m7.bk U U b4',nw m7,U,λj r hr=>?_⟩;by_cases hji:j<rs.length
   .rw[List.getElem?_append_left hji]at hr;obtain⟨q1,q2,q3⟩:=hrs j r hr;exact⟨q1,U,q3.keep ((m7.get r U U).trans ((o4 r U).trans (k3.get r q2)))⟩
   .rw[List.getElem?_append_right U]at hr;have hj0:j=i:=by
     have:=(List.getElem?_eq_some_iff.1 hr).1;simp at this;omega
    subst hj0;rw[hrl,Nat.sub_self]at hr;obtain rfl:=Option.some.inj hr;exact⟨U,U,f7⟩
 .obtain rfl:i=p.length:=U;rw[Nat.sub_self,List.replicate_zero,List.append_nil]at b2;exact hK h.next h2 ⟨⟨rs,hrl,b2,λj r hr=>by
   obtain⟨q1,q2,q3⟩:=hrs j r hr;exact⟨U,q2,q3⟩⟩,Nat.le_refl _,l2⟩ k2
end
end Eva
end
section
open Go Go.RowKit
namespace Eva
section
variable {h h0:AH}{Q:Value->AH->Prop}{Fa F Fo:Nat->Prop}{N:ab}{p:List (List Int)}{ts:List Nat}{g o C q mp tK:Nat}{cA tA:Option Addr}{cK:Nat}{D:Nat->Prop}{a l:Nat}{costs:List Int}{lv:Nat->Nat}
theorem Ig (B:MQ h0 N p g o C ts tA tK q mp cA cK D h) (G:gS h0 Fa F g N) (O:fE h0 Fo o N p) (bc:Bk h0 C (costs.map (Value.int .i64)) 2) (hC:C<h0.next) (hco:cZ N p costs) (hsz:N.size p<1000000) (ha:a<N.na) (hlv:∀v,lv v<=p.length) (hl:lv (N.to a)=l)
  (hK:∀(A4:Option Addr) (K4:Nat) (A5:Option Addr) (K5:Nat) (ol:List Nat) (pr:List Int) (D':Nat->Prop) (h':AH),oM N p costs lv a ol pr->MQ h0 N p g o C ts tA tK q mp cA cK D' h'->Sa cI (λb=>b<h0.next\/h.next<=b\/D b) h' A4 ol.length K4 (ints ol)->Sa cI (λb=>b<h0.next\/h.next<=b\/D b) h' A5 ol.length K5 pr->Mt (λb=>b=mp) h h'->(∀b,D b->D' b)->(∀b,D' b->D b\/h.next<=b)->
   Q (.tuple #[ω A4 ol.length K4,ω A5 ol.length K5]) h') :
  WC Tryz.prog 135 [ψ (Y ⟨q,0,ξ⟩),η ν l,η ν a] h Q:=by
 have hok:=G.ok;have hp:=O.hp;have hna:=G.few.2;have hto:=(ab.to_lt hok ha).1;have hlen:=hco.1;obtain⟨P1,P2,P4,P7,P8⟩:=B.pos;have hp6:=hp.few;refine lT ⟨q,0,rfl,_,aa B.blk rfl,GX (G.nw B.nw) ha ⟨_,rfl,λhl0=>?_,λhl0=>?_⟩⟩
 .have hl0':l=0:=U;subst hl0';obtain⟨bs,hbs⟩:∃bs,N.from_ (N.to a)=bs:=⟨_,rfl⟩;refine⟨_,aa B.blk rfl,GZ (G.nw B.nw) hto λA1 K1 h2 s2 k2=>⟨_,_,_,rfl,?_⟩⟩;have hR:=yY (p:=p) (costs:=costs) hok ha hl;have hbn:bs.length<=1000:=by rw[<-hbs];exact Nat.le_trans (aL _ _) hna
  rw[hbs]at s2 hR⊢;obtain⟨ys,hys⟩:∃ys,(bs.map λb=>N.turn a b)=ys:=⟨_,rfl⟩;have hyl:ys.length=bs.length:=by rw[<-hys];simp
  have z2':=k2.next;refine⟨U,λh3 e3=>?_⟩;obtain⟨k3,g3,z3⟩:=aj e3;rw[aQ]at g3;refine⟨λm x h4=>∃i:Nat,x=i/\i<=bs.length/\m=bs.length - i/\Bk h4 h2.next ((ys.take i ++ List.replicate (ys.length - i) 0).map (Value.int .i64)) 2/\Nw h2 h4/\h2.next<h4.next,bs.length,⟨0,rfl,Nat.zero_le _,rfl,by simpa[hyl]using g3,k3,U⟩,?_⟩;rintro m x h4 ⟨i,rfl,hi,rfl,b4,k4,hlt4⟩;have k04:=k2.trans k4;refine⟨λhlt=>?_,λhge=>?_⟩
  .have hil:i<bs.length:=U;obtain⟨b2,o2,x5,hA1,-,-,hx5,r0⟩:=(s2.nw k4).int (k:=i) hil;obtain⟨b,hb⟩:∃b,bs[i]? = Y b:=⟨_,List.getElem?_eq_getElem U⟩;have hxb:x5=(b:Int):=by simp[ints,hb]at hx5;exact hx5.symm
   subst hxb;have hbn':=hR.lt b (List.mem_of_getElem? hb);have hy:ys[i]? = Y (N.turn a b):=by rw[<-hys,List.getElem?_map,hb];rfl
   refine⟨i,rfl,b2,o2,hA1,hil,_,r0,_,aa (B.next k04).blk rfl,G0 (G.nw (B.nw.trans k04)) ha hbn' λh5 k5=>⟨_,rfl,hil,?_⟩⟩;have b5:=k5.bk hlt4 b4;have z5:=k5.next;have z4:=k4.next;obtain⟨h6,s6,b6,z6,o6⟩:=da b5 (k:=i) (by rw[List.length_append,List.length_take,List.length_replicate];omega) (N.turn a b);rw[xe (xs:=[]) hy]at b6;exact⟨h6,s6,_,ae U U,bs.length - (i+1),U,i+1,U,hil,rfl,b6,⟨U,λb hb=>(o6 b U).trans ((k5.get b U).trans (k4.get b hb))⟩,U⟩
  .obtain rfl:i=bs.length:=U;rw[<-hyl,Nat.sub_self,List.take_length,List.replicate_zero,List.append_nil]at b4;have:=hK A1 K1 (Y ⟨h2.next,0,ξ⟩) (cx bs.length) bs ys D h4 (by rw[<-hys];exact hR) (B.next k04) ((s2.nw k4).mono λb hb _=>.inr (.inl hb)) (Sa.of_ints b4 hyl (.inr (.inl z2')) hlt4) (Mt.of k04) (λb hb=>hb) (λb hb=>.inl hb);exact this
 .have hl1:1<=l:=U;have hll:l<=p.length:=by rw[<-hl];exact hlv _
  have wl:IntKind.i64.wrap ((l:Int) - 1)=((l - 1:Nat):Int):=by rw[Int.natCast_sub hl1];exact ae U U
  obtain⟨b3,o3,A3,n3,K3,row,hcA,-,-,hrow,r0,srow⟩:=B.cells.row (k:=l - 1) U;obtain⟨hrl,hrx⟩:=eG hp hrow;have hn3:n3=N.nv:=by rw[<-srow.len];exact hrl
  subst hn3;obtain⟨b4,o4,x9,hA3,-,-,hx9,r1⟩:=srow.int (k:=N.to a) hto;obtain⟨x9',hx9',x90,-⟩:=hrx (N.to a) hto;rw[hx9]at hx9';obtain rfl:=Option.some.inj hx9';obtain⟨c,rfl⟩:=Int.eq_ofNat_of_zero_le x90;have hc:aG p l (N.to a)=c:=by rw[eh hrow hx9];simp
  have hcm:c<au p l:=by rw[<-hc];exact fu hp hl1 hll hto
  have hlne:lv (N.to a)≠0:=U;obtain⟨f,f1,f2⟩:=B.map_;obtain⟨ig,hig,hzg⟩:=JB;have hlook:=f1.look (e:=253) JA hig hzg (by kernel_rfl) (l,c) true;have nil:∀(D':Nat->Prop) (h':AH),(a ∉ N.ins p l c\/N.outs p l c = [])->MQ h0 N p g o C ts tA tK q mp cA cK D' h'->Mt (λb=>b=mp) h h'->(∀b,D b->D' b)->(∀b,D' b->D b\/h.next<=b)->Q (.tuple #[ω ξ 0 0,ω ξ 0 0]) h':=λD' h' hn hq hm hd1 hd2=>
   hK ξ 0 ξ 0 [] [] D' h' (yZ hlne (by rw[hl,hc];exact hn)) hq ⟨rfl,.inl ⟨rfl,rfl,rfl⟩,λh=>absurd h (Nat.lt_irrefl _)⟩ ⟨rfl,.inl ⟨rfl,rfl,rfl⟩,λh=>absurd h (Nat.lt_irrefl _)⟩ hm hd1 hd2
  refine⟨_,_,_,aa B.blk rfl,_,wl,l - 1,rfl,b3,o3,hcA,U,_,_,_,r0,N.to a,rfl,b4,o4,hA3,hto,_,r1,_,aa B.blk rfl,?_⟩;obtain⟨ni,hni⟩:∃ni,(N.ins p l c).length=ni:=⟨_,rfl⟩;obtain⟨no,hno⟩:∃no,(N.outs p l c).length=no:=⟨_,rfl⟩;have hni2:ni<=1000:=by rw[<-hni];exact Nat.le_trans (aL _ _) hna
  have hno2:no<=1000:=by rw[<-hno];exact Nat.le_trans (aL _ _) hna
  have hse:=ab.start_end (N:=N) (p:=p) (k:=l) hl1 hll hcm;unfold ab.sz at hse;rw[hni,hno]at hse;have main:∀(h9:AH) (D':Nat->Prop) (A6 A7:Option Addr) (K6 K7:Nat),MQ h0 N p g o C ts tA tK q mp cA cK D' h9->Mt (λb=>b=mp) h h9->(∀b,D b->D' b)->(∀b,D' b->D b\/h.next<=b)->h.next<h9.next->Bk h9 h.next [ω A6 ni K6,ω A7 no K7] 253->Sa cI D' h9 A7 no K7 (ints (N.outs p l c))->∀h10,a∈N.ins p l c->N.outs p l c≠[]->Nw h9 h10->
    ∃(A:Option Addr) (n:Nat) (K:Nat),ldC h10 h.next 1=Y (ω A n K)/\∃x12:Int,IntKind.i64.wrap (((N.start p l c+(N.ins p l c).idxOf a*no:Nat):Int)+(n:Int))=x12/\∃(A8:Option Addr) (n8:Nat) (K8:Nat),ldC h10 q (0+2)=Y (ω A8 n8 K8)/\(((n8:Int):Int)<x12->Q (.tuple #[ω ξ 0 0,ω ξ 0 0]) h10)/\(¬(((n8:Int):Int)<x12)->∃(A9:Option Addr) (n9:Nat) (K9:Nat),ldC h10 h.next 1=Y (ω A9 n9 K9)/\∃(A10:Option Addr) (n10:Nat) (K10:Nat),ldC h10 q (0+2)=Y (ω A10 n10 K10)/\∃(A11:Option Addr) (n11:Nat) (K11:Nat),ldC h10 h.next 1=Y (ω A11 n11 K11)/\∃x13:Int,IntKind.i64.wrap (((N.start p l c+(N.ins p l c).idxOf a*no:Nat):Int)+(n11:Int))=x13/\∃k4:Nat,((N.start p l c+(N.ins p l c).idxOf a*no:Nat):Int)=(k4:Int)/\∃k5:Nat,x13=(k5:Int)/\∃(A12:Option Addr) (n12 K12:Nat),am Tryz.prog 2 A10 n10 K10 (Y k4) (Y k5) ξ=Y (ω A12 n12 K12)/\bO (ω A11 n11 K11)/\bO (ω A10 n10 K10)/\Q (.tuple #[ω A9 n9 K9,ω A12 n12 K12]) h10):=by
   intro h9 D' A6 A7 K6 K7 B9 m9 hd1 hd2 hlt9 gb so h10 hin hne k10;have hidx:=List.idxOf_lt_length_of_mem hin;have hmul:((N.ins p l c).idxOf a+1)*no<=ni*no:=Nat.mul_le_mul_right _ (by rw[<-hni];exact hidx);rw[Nat.succ_mul]at hmul;have hpos:0<no:=by rw[<-hno];cases hx:N.outs p l c with | nil=>exact absurd hx hne | cons x l=>simp
   obtain⟨lo,hlo⟩:∃lo,N.start p l c+(N.ins p l c).idxOf a*no=lo:=⟨_,rfl⟩;rw[hlo];have wlo:IntKind.i64.wrap ((lo:Int)+(no:Int))=((lo+no:Nat):Int):=by rw[Int.natCast_add];exact ae U U
   have B10:=B9.next k10;have gb10:=k10.bk hlt9 gb;have hsl:=Am (P:=Tryz.prog) (e:=2) (C:=C) (n:=N.size p) (lo:=lo) (hi:=lo+no) En U U (.inl U);rw[Nat.add_sub_cancel_left]at hsl;refine⟨_,_,_,aa gb10 rfl,_,wlo,_,_,_,aa B10.blk rfl,λh=>absurd h U,λ_=>⟨_,_,_,aa gb10 rfl,_,_,_,aa B10.blk rfl,_,_,_,aa gb10 rfl,_,wlo,lo,rfl,lo+no,rfl,_,_,_,hsl,so.eqok,rfl,?_⟩⟩;have hR:=xq hlv hok hp hco ha hl U hc hin;rw[hno,hlo]at hR;have hE:∀b,D' b->(b<h0.next\/h.next<=b\/D b):=λb hb=>(hd2 b hb).elim (λh=>.inr (.inr h)) (λh=>.inr (.inl h));have m10:=m9.nw k10;have:=hK A7 K7 (Y ⟨C,lo,ξ⟩) (cx (N.size p - lo)) (N.outs p l c) _ D' h10 hR B10 (by rw[hno];exact(so.nw k10).mono λb hb _=>hE b hb) (by rw[hno];exact Ca (B10.nw.bk hC bc) (by have:=B10.nw.next;omega) (.inl hC) U _) m10 hd1 hd2;rw[hno]at this;exact this
  cases hf:f (l,c) with
  | some v=>
   obtain⟨A6,K6,A7,K7,rfl,s6,s7⟩:=f2 l c v hf;rw[hni]at s6;rw[hno]at s7;rw[hf,hni,hno]at hlook;refine⟨_,_,_,_,_,_,_,hlook,λ_ h7 e7=>?_,λh=>Bool.noConfusion h⟩;obtain⟨h8,s8,k8,g8,z8⟩:=aD (vs:=[ω A6 ni K6,ω A7 no K7]) e7 rfl (cR rfl rfl);have B8:=B.next k8;refine⟨h8,s8,_,_,_,aa g8 rfl,uZ a (s6.nw k8) (bH _ _) U ⟨_,rfl,_,aa B8.blk rfl,JC (O.nw B8.nw) hl1 hll hcm (λh10 hn k10=>⟨_,rfl,λ_=>nil D h10 hn (B8.next k10) (Mt.of (k8.trans k10)) (λb hb=>hb) (λb hb=>.inl hb),λ_=>⟨λ_=>nil D h10 hn (B8.next k10) (Mt.of (k8.trans k10)) (λb hb=>hb) (λb hb=>.inl hb),λh=>absurd (show(-1:Int)<0 by omega) h⟩⟩) (λh10 hin hne k10=>⟨_,rfl,λh=>absurd h (by have:=fa.2 hin;omega),λ_=>⟨λh=>absurd h U,λ_=>?_⟩⟩)⟩⟩;have:=main h8 D A6 A7 K6 K7 B8 (Mt.of k8) (λb hb=>hb) (λb hb=>.inl hb) U g8 (s7.nw k8) h10 hin hne k10;rw[hno];exact this
  | none=>
   rw[hf]at hlook;refine⟨ξ,0,0,ξ,0,0,_,hlook,λh=>Bool.noConfusion h,λ_ h11 e11=>?_⟩;obtain⟨h12,s12,k12,g12,z12⟩:=aD (vs:=[ω ξ 0 0,ω ξ 0 0]) e11 rfl (cR rfl rfl);have B12:=B.next k12;refine⟨h12,s12,_,aa B12.blk rfl,D4 (O.nw B12.nw) hl1 hll hcm λA6 K6 A7 K7 h13 s6 s7 k13=>⟨_,_,_,_,_,_,rfl,?_⟩⟩;rw[hni]at s6⊢;rw[hno]at s7⊢;have z13:=k13.next;obtain⟨h14,s14,b14,z14,o14⟩:=dh (vs:=[ω A6 ni K6,ω A7 no K7]) (k13.bk U g12) rfl (cR rfl rfl);have k14:Nw h h14:=⟨U,λb hb=>(o14 b U).trans ((k13.get b U).trans (k12.get b hb))⟩;have B14:=B.next k14;obtain⟨h15,y1,y2,y3,y4⟩:=(f1.keep (h':=h14) (k14.get _ P8)).put (P:=Tryz.prog) (e:=253) JA (l,c) (.agg #[ω A6 ni K6,ω A7 no K7]);have m15:Mt (λb=>b=mp) h14 h15:=⟨U,λb _ hb=>y4 b hb⟩;have s6':Sa cI (λb=>h12.next<=b/\b<h13.next) h15 A6 ni K6 (ints (N.ins p l c)):=((s6.mono λb hb hlt=>⟨hb,hlt⟩).keep (h':=h14) (λb hb _=>o14 b U) U).off m15 λb hb e=>U;have s7':Sa cI (λb=>h12.next<=b/\b<h13.next) h15 A7 no K7 (ints (N.outs p l c)):=((s7.mono λb hb hlt=>⟨hb,hlt⟩).keep (h':=h14) (λb hb _=>o14 b U) U).off m15 λb hb e=>U;have B15:MQ h0 N p g o C ts tA tK q mp cA cK (λb=>D b\/(h12.next<=b/\b<h13.next)) h15:=by
    refine⟨m15.is_nw B14.nw λb hb=>U,m15.bk U P4 B14.blk,(B14.cells.off m15 λb hb e=>(B.dlo b hb).2.2.2 e).mono λb hb _=>.inl hb,⟨_,y2,λl' c' v hv=>?_⟩,B.ts_,λb hb=>?_,U⟩
    .by_cases e:(l',c')=(l,c)
     .rw[if_pos e]at hv;obtain rfl:=Option.some.inj hv;injection e with e1 e2;subst e1 e2;exact⟨A6,K6,A7,K7,by rw[hni,hno],by rw[hni];exact s6'.mono λb hb _=>.inr hb,by rw[hno];exact s7'.mono λb hb _=>.inr hb⟩
     .rw[if_neg e]at hv;obtain⟨A,K,A',L,e',x1,x2⟩:=f2 l' c' v hv;exact⟨A,K,A',L,e',(((x1.nw k14).off m15 λb hb e=>(B.dlo b hb).2.2.2 e)).mono λb hb _=>.inl hb,(((x2.nw k14).off m15 λb hb e=>(B.dlo b hb).2.2.2 e)).mono λb hb _=>.inl hb⟩
    .rcases hb with hb | hb
     .have:=B.dlo b hb;omega
     .omega
   have b15:=m15.bk U U b14;have m015:Mt (λb=>b=mp) h h15:=(Mt.of k14).then m15;have hd1:∀b,D b->(D b\/(h12.next<=b/\b<h13.next)):=λb hb=>.inl hb;have hd2:∀b,(D b\/(h12.next<=b/\b<h13.next))->D b\/h.next<=b:=λb hb=>hb.imp id λh=>U;refine⟨h14,s14,_,aa B14.blk rfl,_,_,_,_,_,_,bo b14 (by simp),h15,y1,_,_,_,aa b15 rfl,uZ a s6' (bH _ _) U ⟨_,rfl,_,aa B15.blk rfl,JC (O.nw B15.nw) hl1 hll hcm (λh10 hn k10=>⟨_,rfl,λ_=>nil _ h10 hn (B15.next k10) (m015.nw k10) hd1 hd2,λ_=>⟨λ_=>nil _ h10 hn (B15.next k10) (m015.nw k10) hd1 hd2,λh=>absurd (show(-1:Int)<0 by omega) h⟩⟩) (λh10 hin hne k10=>⟨_,rfl,λh=>absurd h (by have:=fa.2 hin;omega),λ_=>⟨λh=>absurd h U,λ_=>?_⟩⟩)⟩⟩;have:=main h15 _ A6 A7 K6 K7 B15 m015 hd1 hd2 U b15 (s7'.mono λb hb _=>.inr hb) h10 hin hne k10;rw[hno];exact this
end
end Eva
end
section
open Go Go.RowKit
namespace Eva
def oO (done:Nat->Option Nat) (n:Nat):List Bool:=(List.range n).map λa=>(done a).isSome
section
variable {h h' h0:AH}{Q:Value->AH->Prop}{Fa F Fo:Nat->Prop}{N:ab}{p:List (List Int)}{g o C s t q mp bf DN hp n:Nat}{cA:Option Addr}{cK:Nat}{D D':Nat->Prop}{costs:List Int}{done w:Nat->Option Nat}{par:Nat->Nat}
theorem rg (dn:Nat->Option Nat) (k:Nat) (l:List (Nat×Nat)) (x:Nat×Nat) (st:(Nat->Option Nat)×(Nat->Nat)):dg dn k (l ++ [x]) st=dL dn k (dg dn k l st) x:=by
 unfold dg;rw[List.foldl_append];rfl
end
end Eva
end
section
open Go Go.RowKit
def cz (ts:List Nat) (done:Nat->Option Nat) (a:Nat):Option Nat:=if a∈ts/\done a=ξ then Y 0 else ξ
theorem xr {ts:List Nat}{done:Nat->Option Nat}{k c n:Nat}(hk:done k=ξ) (hn:k<n) (ht:k∈ts):Eva.cntD (cz ts done) n=Eva.cntD (cz ts (upd done k (Y c))) n+1:=by
 have e:cz ts done=upd (cz ts (upd done k (Y c))) k (Y 0):=by
  funext a
  unfold upd;by_cases h:a=k
  .subst h;rw[if_pos rfl,cz,if_pos ⟨ht,hk⟩]
  .rw[if_neg h];unfold cz;simp only[if_neg h]
 rw[e];exact Eva.cntD_upd (by unfold cz upd;rw[if_neg (by simp)]) n hn
theorem Cc {ts:List Nat}{done:Nat->Option Nat}{k c:Nat}(ht:k ∉ ts):cz ts (upd done k (Y c))=cz ts done:=by
 funext a
 unfold cz upd;by_cases h:a=k
 .subst h;rw[if_neg (λh=>ht h.1),if_neg (λh=>ht h.1)]
 .simp only[if_neg h]
theorem y6 {ts:List Nat}{done:Nat->Option Nat}{n t:Nat}(h:Eva.cntD (cz ts done) n=0) (ht:t∈ts) (hn:t<n):done t≠none:=by
 intro hd;have:=xr (c:=0) hd hn ht;omega
def dw (ts:List Nat) (i a:Nat):Option Nat:=if a∈ts.take i then Y 0 else ξ
theorem Cd (ts:List Nat):dw ts ts.length=cz ts (λ_=>ξ):=by
 funext a
 unfold dw cz;rw[List.take_length];simp
theorem y7 {ts:List Nat}{i t:Nat}(ht:ts[i]? = Y t):(t∈ts.take i->dw ts (i+1)=dw ts i)/\(t ∉ ts.take i->∀n,t<n->Eva.cntD (dw ts (i+1)) n=Eva.cntD (dw ts i) n+1):=by
 have hm:∀a,a∈ts.take (i+1)↔a∈ts.take i\/a=t:=λa=>by rw[List.take_add_one,ht];simp
 refine⟨λh=>?_,λh n hn=>?_⟩
 .funext a
  unfold dw;by_cases h1:a∈ts.take i
  .rw[if_pos h1,if_pos ((hm a).2 (.inl h1))]
  .rw[if_neg h1,if_neg λh2=>((hm a).1 h2).elim h1 λe=>h1 (e ▸ h)]
 .have e:dw ts (i+1)=upd (dw ts i) t (Y 0):=by
   funext a
   unfold upd dw;by_cases h1:a=t
   .rw[if_pos h1,if_pos ((hm a).2 (.inr h1))]
   .rw[if_neg h1];by_cases h2:a∈ts.take i
    .rw[if_pos h2,if_pos ((hm a).2 (.inl h2))]
    .rw[if_neg h2,if_neg λh3=>((hm a).1 h3).elim h2 h1]
  rw[e];exact Eva.cntD_upd (by unfold dw;rw[if_neg h]) n hn
def dy (ts:List Nat) (done:Nat->Option Nat):List Nat:=ts.map λt=>(done t).getD bl
theorem EB {ts:List Nat}{done:Nat->Option Nat}{i t:Nat}(h:ts[i]? = Y t):(dy ts done)[i]? = Y ((done t).getD bl):=by
 unfold dy;rw[List.getElem?_map,h];rfl
theorem y8 {ts:List Nat}{d d':Nat->Option Nat}(h:∀t∈ts,d t=d' t):dy ts d=dy ts d':=List.map_congr_left λt ht=>by rw[h t ht]
def pk (ts:List Nat) (d d':Nat->Option Nat) (j:Nat):List Nat:=dy (ts.take j) d' ++ dy (ts.drop j) d
theorem Ce (ts:List Nat) (d d':Nat->Option Nat):pk ts d d' 0=dy ts d:=rfl
theorem EC (ts:List Nat) (d d':Nat->Option Nat):pk ts d d' ts.length=dy ts d':=by
 unfold pk dy;rw[List.take_length,List.drop_length];exact List.append_nil _
theorem ED (ts:List Nat) (d d':Nat->Option Nat) (j:Nat):(pk ts d d' j).length=ts.length:=by
 unfold pk dy;rw[List.length_append,List.length_map,List.length_map,<-List.length_append,List.take_append_drop]
theorem tF {ts:List Nat}(d d':Nat->Option Nat){j t:Nat}(h:ts[j]? = Y t):pk ts d d' (j+1)=(pk ts d d' j).set j ((d' t).getD bl):=by
 obtain⟨hj,ht⟩:=List.getElem?_eq_some_iff.1 h;have hd:ts.drop j=t :: ts.drop (j+1):=by rw[List.drop_eq_getElem_cons hj,ht]
 have hl:(dy (ts.take j) d').length=j:=by unfold dy;rw[List.length_map,List.length_take];omega
 unfold pk;rw[hd,List.take_add_one,h];show dy (ts.take j ++ [t]) d' ++ _=(dy (ts.take j) d' ++ ((d t).getD bl :: dy (ts.drop (j+1)) d)).set j _;rw[List.set_append_right _ _ U,hl,Nat.sub_self,List.set_cons_zero];unfold dy;rw[List.map_append,List.append_assoc];rfl
theorem Mr {α:Type}{l:List α}{j:Nat}{x:α}(h:l[j]? = Y x):l.set j x=l:=by
 apply List.ext_getElem?;intro i;rw[List.getElem?_set];by_cases e:j=i
 .subst e;rw[if_pos rfl,if_pos (List.getElem?_eq_some_iff.1 h).1,h]
 .rw[if_neg e]
theorem Cf {ts:List Nat}(d d':Nat->Option Nat){j t:Nat}(h:ts[j]? = Y t) (e:d t=d' t):pk ts d d' (j+1)=pk ts d d' j:=by
 obtain⟨hj,ht⟩:=List.getElem?_eq_some_iff.1 h;rw[tF d d' h];refine Mr ?_;have hl:(dy (ts.take j) d').length=j:=by unfold dy;rw[List.length_map,List.length_take];omega
 unfold pk;rw[List.getElem?_append_right U,hl,Nat.sub_self];unfold dy;rw[List.getElem?_map,List.getElem?_drop,Nat.add_zero,h,<-e];rfl
def dz (l:List Nat):List Int:=l.map λd:Nat=>(d:Int)
namespace Eva
def pn {α:Type} [DecidableEq α] (κ:α->Value) (h:AH) (r:Nat) (f:α->Option Value) (n:Nat):Prop:=
 ∃(l:List (IG α)) (clock:Nat),h.get r=Y (.map (l.map (tz κ)) clock)/\(∀a,f a=kY l a)/\l.length=n
section
variable {α:Type} [DecidableEq α] {κ:α->Value}{h h':AH}{r n:Nat}{f:α->Option Value}{P:Program}{kt e:TypeId}
theorem pn.toF (m:pn κ h r f n):cX κ h r f:=by
 obtain⟨l,c,h1,h2,-⟩:=m;exact⟨l,c,h1,h2⟩
theorem pn.keep (m:pn κ h r f n) (hg:h'.get r=h.get r):pn κ h' r f n:=by
 obtain⟨l,c,h1,h2⟩:=m;exact⟨l,c,hg.trans h1,h2⟩
theorem pn.len (m:pn κ h r f n):kj h r=Y (η ν (n:Int)):=by
 obtain⟨l,c,h1,-,rfl⟩:=m;unfold kj;rw[h1];simp
theorem pn.put (m:pn κ h r f n) (K:kf P kt κ) (a:α) (v:Value) :
  ∃h',ej P h (Y (.map kt e)) (.map (Y r)) (κ a) v=Y (undef,h')/\pn κ h' r (λx=>if x=a then Y v else f x) (if(f a).isSome then n else n+1)/\h'.next=h.next/\∀b,b≠r->h'.get b=h.get b:=by
 obtain⟨l,c,h1,h2,rfl⟩:=m;have hput:∀ao,(h.put r ao).get r=Y ao:=λao=>by rw[get_put,if_pos rfl]
 have hne:∀ao b,b≠r->(h.put r ao).get b=h.get b:=λao b hb=>by rw[get_put,if_neg hb]
 unfold ej;simp only[h1,K.pl,K.chk,Bool.and_self,cond_true];rcases iD K a l 0 with⟨g1,g2⟩ | ⟨j,v0,b,g1,g2,g3,g4⟩
 .rw[g1];refine⟨h.put r (.map (l.map (tz κ) ++ [(κ a,v,c)]) (c+1)),rfl,⟨l ++ [(a,v,c)],c+1,?_,λx=>?_,?_⟩,rfl,λb hb=>hne _ b hb⟩
  .rw[hput,List.map_append];rfl
  .simp only[h2];unfold kY at g2⊢;rw[List.find?_append];by_cases hx:x=a
   .subst hx;have:List.find? (λy=>decide (y.1=x)) l=none:=by simpa using g2
    simp[this]
   .have:¬a=x:=λe=>hx e.symm;simp[hx,this]
  .rw[h2,g2];simp
 .rw[g1];have hs:jw (κ a) (l.map (tz κ))[0+j]? = true:=by
   rw[Nat.zero_add,List.getElem?_map,g2];exact K.bits a
  refine⟨h.put r (.map (oW (κ a) v (l.map (tz κ)) (0+j)) c),by show cond (jw (κ a) (l.map (tz κ))[0+j]?) _ ξ=_;rw[hs];rfl,⟨l.set j (a,v,b),c,?_,λx=>?_,?_⟩,rfl,λb hb=>hne _ b hb⟩
  .rw[hput,Nat.zero_add,qW g2]
  .rw[g4 v x];simp only[h2]
  .rw[h2,g3];simp
end
section
variable {h h0:AH}{Q:Value->AH->Prop}{Fa F Fo:Nat->Prop}{N:ab}{p:List (List Int)}{ts:List Nat}{g o C s q mp tK:Nat}{cA tA:Option Addr}{cK:Nat}{D:Nat->Prop}{costs:List Int}
theorem JJ (B:MQ h0 N p g o C ts tA tK q mp cA cK D h) (G:gS h0 Fa F g N) (O:fE h0 Fo o N p) (bc:Bk h0 C (costs.map (Value.int .i64)) 2) (hC:C<h0.next) (hco:cZ N p costs) (hsz:N.size p<1000000) (hs:s<N.na) (hts:∀t∈ts,t<N.na) (htl:ts.length<=1000)
  (hK:∀RB (ds:List Nat) D' h',Bk h' RB ((dz ds).map (Value.int .i64)) 2->h.next<=RB->RB<h'.next->ds.length=ts.length->(∀(i t d:Nat),ts[i]? = Y t->ds[i]? = Y d->iG N s t d)->MQ h0 N p g o C ts tA tK q mp cA cK D' h'->Mt (λb=>b=mp) h h'->¬D' RB->(∀b,D' b->D b\/h.next<=b)->Q (ω (Y ⟨RB,0,ξ⟩) ts.length (cx ts.length)) h') :
  WC Tryz.prog 64 [ψ (Y ⟨q,0,ξ⟩),η ν s] h Q:=by
 have hok:=G.ok;have hp:=O.hp;have hna:=G.few.2;obtain⟨P1,P2,P3,P4,P5⟩:=B.pos;refine nH ⟨q,0,rfl,tA,ts.length,tK,aa B.blk rfl,U,λh1 e1 h2 e2=>?_⟩;obtain⟨k1,g1,z1⟩:=aj e1;obtain⟨k2,g2,z2⟩:=aj e2;rw[aQ,<-List.map_replicate]at g1;have k02:=k1.trans k2;have cnt0:cntD (λ_=>ξ) N.na=0:=by simp[cntD]
 obtain⟨e,he⟩:∃e,e=N.leV p costs (N.levM p (N.mks s ts)):=⟨_,rfl⟩;have wr1:∀{i:Nat},i<ts.length->IntKind.i64.wrap ((i:Int)+1)=((i+1:Nat):Int):=λhi=>ae U U;refine⟨tA,ts.length,tK,aa (B.next k02).blk rfl,λm x h3=>∃i:Nat,x=i/\i<=ts.length/\m=ts.length - i/\Bk h3 h.next ((List.replicate i (1152921504606846976:Int) ++ List.replicate (ts.length - i) 0).map (Value.int .i64)) 2/\pn kN h3 h1.next (λa=>(dw ts i a).map λ_=>Value.int .i64 0) (cntD (dw ts i) N.na)/\Nw h h3/\h3.next=h2.next,ts.length,⟨0,rfl,Nat.zero_le _,rfl,k2.bk U g1,⟨[],0,g2,λa=>rfl,?_⟩,k02,rfl⟩,?_⟩
 .have e0:dw ts 0=λ_=>none:=by funext a;unfold dw;rw[if_neg (by simp)]
  rw[e0];exact cnt0.symm
 rintro m x h3 ⟨i,rfl,hi,rfl,b3,w3,k3,z3⟩;refine⟨λhlt=>?_,λhge=>?_⟩
 .have hil:i<ts.length:=U;obtain⟨b,o',t,hA,ht,et⟩:=B.t_ (B.nw.trans k3) hil;have htn:=hts t (List.mem_of_getElem? ht);obtain⟨h4,s4,b4,z4,o4⟩:=da b3 (k:=i) (by simp;omega) 1152921504606846976;obtain⟨h5,y1,y2,y3,y4⟩:=(w3.keep (h':=h4) (o4 _ U)).put (P:=Tryz.prog) (e:=3) wZ t (η ν 0);refine⟨i,rfl,b,o',hA,hil,_,et,hil,h4,s4,h5,y1,_,wr1 hil,ts.length - (i+1),U,i+1,rfl,hil,rfl,?_,?_,⟨U,λb hb=>(y4 b U).trans ((o4 b U).trans (k3.get b hb))⟩,U⟩
  .have e1:=mu (xs:=List.replicate i (1152921504606846976:Int)) (n:=ts.length) (z:=0) (v:=1152921504606846976) (by simpa using hil);rw[List.length_replicate]at e1;rw[e1]at b4;rw[List.replicate_succ'];exact(y4 _ U).trans b4
  .obtain⟨n1,n2⟩:=y7 ht;have ef:(λx=>if x=t then Y (Value.int .i64 0) else(dw ts i x).map λ_=>Value.int .i64 0)=λa=>(dw ts (i+1) a).map λ_=>Value.int .i64 0:=by
    funext a
    have hm:a∈ts.take (i+1)↔a∈ts.take i\/a=t:=by rw[List.take_add_one,ht];simp
    unfold dw;by_cases h1:a=t
    .rw[if_pos h1,if_pos (hm.2 (.inr h1))];rfl
    .rw[if_neg h1];by_cases h2:a∈ts.take i
     .rw[if_pos h2,if_pos (hm.2 (.inl h2))]
     .rw[if_neg h2,if_neg λh3=>(hm.1 h3).elim h2 h1]
   rw[ef]at y2;by_cases h1:t∈ts.take i
   .rw[if_pos (by unfold dw;rw[if_pos h1];rfl)]at y2;rw[n1 h1]at y2⊢;exact y2
   .rw[if_neg (by unfold dw;rw[if_neg h1];simp)]at y2;rw[n2 h1 _ htn];exact y2
 obtain rfl:i=ts.length:=U;rw[Nat.sub_self,List.replicate_zero,List.append_nil]at b3;rw[Cd]at w3;obtain⟨RB,hRB⟩:∃RB,RB=h.next:=⟨_,rfl⟩;obtain⟨WM,hWM⟩:∃WM,WM=h1.next:=⟨_,rfl⟩;rw[<-hRB]at b3;rw[<-hWM]at w3;have wI:dy ts (λ_=>ξ)=List.replicate ts.length bl:=by unfold dy;rw[List.map_const'];rfl
 have bI:Bk h3 RB ((dz (dy ts λ_=>ξ)).map (Value.int .i64)) 2:=by
  rw[wI];unfold dz;rw[List.map_replicate];exact b3
 have rl:∀d,(dy ts d).length=ts.length:=λd=>by unfold dy;simp
 rw[<-hRB,<-hWM];refine⟨_,aa (B.next k3).blk rfl,me (G.nw (B.nw.trans k3)) hs ⟨_,rfl,λhge=>?_,λhlt=>?_⟩⟩
 .refine hK RB _ D h3 bI U U (rl _) (λi t d h1 h2=>?_) (B.next k3) (Mt.of k3) (λhd=>by have:=B.dlo _ hd;omega) (λb hb=>.inl hb);rw[wI,List.getElem?_replicate]at h2
  split at h2
  .obtain rfl:=Option.some.inj h2;exact⟨λh=>absurd h (Int.not_lt.2 hge),λ_=>rfl⟩
  .cases h2
 have hws:N.w s<aT:=Int.not_le.1 hlt;refine Gm (B.next k3) (G) hp hs hts htl λTB h7 T7 k7=>⟨_,_,_,rfl,_,aa (B.next (k3.trans k7)).blk rfl,tm (G.nw (B.nw.trans (k3.trans k7))) ⟨_,rfl,N.na,rfl,U,λh9 e9=>?_⟩⟩;obtain⟨k9,g9,z9⟩:=aj e9;rw[aQ]at g9;obtain⟨DN,hDN⟩:∃DN,DN=h7.next:=⟨_,rfl⟩;rw[<-hDN]at g9;have z7:=k7.next;have T9:di h9 (λb=>h3.next<=b/\b<h7.next) TB p (N.mks s ts):=by
  obtain⟨⟨rs,r1,r2,r3⟩,t1,t2⟩:=T7;exact di.nw ⟨⟨rs,r1,r2,λi r hr=>by have:=r3 i r hr;exact⟨⟨this.1,this.2.1⟩,this.2⟩⟩,⟨t1,t2⟩,t2⟩ k9
 have k09:=k3.trans (k7.trans k9);rw[<-hDN];refine Jg N.na U λh10 S10 hh H10 k10 hS10=>⟨_,rfl,fSq H10 hs (Int.le_refl _) U λh11 S11 H11 m11 g11=>⟨_,rfl,?_⟩⟩;have z10:=k10.next;have z11:=m11.next;have S10lt:∀b,S10 b->b<h10.next:=λb hb=>by
  obtain⟨row,costs',A',K',Bc,Bs,seats,-,-,-,q4⟩:=H10;exact q4 b hb
 have S11b:∀b,S11 b->DN<b/\b<h11.next:=λb hb=>(g11 b hb).elim (λh=>by have:=hS10 b h;have:=S10lt b h;omega) (λh=>U);have B11:MQ h0 N p g o C ts tA tK q mp cA cK D h11:=(B.next (k09.trans k10)).off m11 λb hb=>by
  have:=hS10 b hb;exact⟨U,U,U,λhd=>by have:=B.dlo b hd;omega⟩
 have w11:pn kN h11 WM (λa=>(cz ts (λ_=>ξ) a).map λ_=>Value.int .i64 0) (cntD (cz ts λ_=>ξ) N.na):=w3.keep ((m11.get _ U (λhs=>by have:=hS10 _ hs;omega)).trans (((k7.trans k9).trans k10).get _ U));have b11:Bk h11 RB ((dz (dy ts λ_=>ξ)).map (Value.int .i64)) 2:=m11.bk U (λhs=>by have:=hS10 _ hs;omega) (((k7.trans k9).trans k10).bk U bI);have d11:Bk h11 DN ((oO (λ_=>ξ) N.na).map Value.bool) 4:=by
  have e1:oO (λ_=>ξ) N.na=List.replicate N.na false:=by
   unfold oO;show(List.range N.na).map (λ_=>false)=_;rw[List.map_const',List.length_range]
  rw[e1,List.map_replicate];exact m11.bk U (λhs=>by have:=hS10 _ hs;omega) (k10.bk U g9)
 have T11:di h11 (λb=>h3.next<=b/\b<h7.next) TB p (N.mks s ts):=(T9.nw k10).off m11 λb hb hs=>by have:=hS10 _ hs;omega
 obtain⟨JR,hJ⟩:∃J:Nat->Int->AH->Prop,∀m x h5,J m x h5↔∃(done w:Nat->Option Nat) (D5 S5:Nat->Prop),MQ h0 N p g o C ts tA tK q mp cA cK D5 h5/\Bk h5 RB ((dz (dy ts done)).map (Value.int .i64)) 2/\Bk h5 DN ((oO done N.na).map Value.bool) 4/\cX kN h5 WM (λa=>(cz ts (λ_=>ξ) a).map λ_=>Value.int .i64 0)/\di h5 (λb=>h3.next<=b/\b<h7.next) TB p (N.mks s ts)/\bF h5 S5 hh N.na w/\(∀b,S5 b->DN<b/\b<h5.next/\¬D5 b)/\(∀b,D5 b->D b\/DN<b)/\Mt (λb=>b=mp) h h5/\DN<h5.next/\
   qE bl e s done (jl bl w)/\(∀b c,w b=Y c->c<bl)/\(∀a c,done a=Y c->a<N.na)/\x=(cntD (cz ts done) N.na:Int)/\m=N.na - cntD done N.na:=⟨_,λ_ _ _=>Iff.rfl⟩
 refine⟨_,w11.len,JR,N.na,(hJ _ _ _).2 ⟨λ_=>ξ,λb=>if b=s then Y 0 else ξ,D,S11,B11,b11,d11,w11.toF,T11,H11,λb hb=>⟨(S11b b hb).1,(S11b b hb).2,λhd=>by have:=S11b b hb;have:=B.dlo b hd;omega⟩,λb hd=>.inl hd,⟨U,λb hb _=>(m11.get b U (λhs=>by have:=hS10 _ hs;omega)).trans ((k09.trans k10).get b hb)⟩,U,by rw[qV];exact qE.new (by unfold bl;omega),λb c hb=>?_,(λa c h=>by cases h),rfl,by rw[cnt0];rfl⟩,λm x h12 hj=>?_⟩
 .by_cases e:b=s
  .simp[e]at hb;unfold bl;omega
  .simp[e]at hb
 obtain⟨done,w,D5,S5,B12,r12,d12,w12,T12,H12,hS5,hD5,m12,l12,hD,hwI,hdn,rfl,rfl⟩:=(hJ _ _ _).1 hj;have z12:=m12.next;have fin:∀h',MQ h0 N p g o C ts tA tK q mp cA cK D5 h'->Bk h' RB ((dz (dy ts done)).map (Value.int .i64)) 2->Mt (λb=>b=mp) h h'->RB<h'.next->(∀t∈ts,jk bl e s t ((done t).getD bl))->Q (ω (Y ⟨RB,0,ξ⟩) ts.length (cx ts.length)) h':=λh' B' b' m' l' hL=>
  hK RB (dy ts done) D5 h' b' U l' (rl _) (λi t d h1 h2=>by
   rw[EB h1]at h2;obtain rfl:=Option.some.inj h2;have ht:=List.mem_of_getElem? h1;exact⟨λ_=>Gj hok hp hco hs hts ht (he ▸ hL t ht),λh=>absurd hws (Int.not_lt.2 h)⟩) B' m' (λhd=>(hD5 _ hd).elim (λh=>by have:=B.dlo _ h;omega) (λh=>U)) λb hb=>(hD5 b hb).imp id λh=>U
 refine⟨λhlt=>?_,λhge=>fin h12 B12 r12 m12 U λt ht=>?_⟩
 rotate_left
 .cases hd:done t with
  | none=>exact absurd hd (y6 U ht (hts t ht))
  | some c=>
   obtain⟨a1,a2,a3⟩:=hD.fin t c hd;exact⟨Nat.le_of_lt a1,a3,λ_=>a2⟩
 refine Jh H12 (λhq=>⟨_,_,_,rfl,λh=>Bool.noConfusion h,λ_=>fin h12 B12 r12 m12 U λt ht=>hD.over (λb c hb=>by rw[hq b]at hb;cases hb) t⟩) (λk c h13 hkN hqk hmin H13 m13 z13=>?_);have hfin:jl bl w=w:=by
  funext b
  unfold jl;cases hb:w b with
  | none=>rfl
  | some c=>simp[hwI b c hb]
 have hcI:=hwI k c hqk;have B13:=B12.off m13 λb hb=>by have:=hS5 b hb;exact⟨U,U,U,this.2.2⟩
 have d13:=m13.bk l12 (λhs=>by have:=hS5 _ hs;omega) d12;have r13:=m13.bk U (λhs=>by have:=hS5 _ hs;omega) r12;have w13:=w12.keep (m13.get WM U (λhs=>by have:=hS5 _ hs;omega));have T13:=T12.off m13 λb hb hs=>by have:=hS5 _ hs;omega
 have m013:Mt (λb=>b=mp) h h13:=⟨U,λb hb hn=>(m13.get b U (λhs=>by have:=hS5 _ hs;omega)).trans (m12.get b hb hn)⟩;have hdk:done k=none:=(hD.wait k c (by rw[hfin];exact hqk)).2.2;obtain⟨h14,s14,b14,z14,o14⟩:=ax (v:=.bool true) d13 (o:=0+k) (by unfold oO;simpa using hkN) rfl;have d14:Bk h14 DN ((oO (upd done k (Y c)) N.na).map Value.bool) 4:=by
  rw[Nat.zero_add,<-List.map_set]at b14;unfold oO at b14⊢;rw[Aq (c:=c) hkN]at b14;exact b14
 obtain⟨dn,hdnE⟩:∃dn,dn=upd done k (Y c):=⟨_,rfl⟩;rw[<-hdnE]at d14;have m14:Mt (λb=>b=DN) h13 h14:=⟨U,λb _ hb=>o14 b hb⟩;have B14:=B13.off m14 λb hb=>by subst hb;exact⟨U,U,U,λhd=>(hD5 _ hd).elim (λh=>by have:=B.dlo _ h;omega) (λh=>U)⟩
 have r14:Bk h14 RB ((dz (dy ts done)).map (Value.int .i64)) 2:=(o14 _ U).trans r13;have w14:=w13.keep (o14 WM U);have T14:=T13.off m14 λb hb e=>U;have H14:=H13.off m14 λb hb e=>by have:=hS5 b hb;omega
 have m014:Mt (λb=>b=mp) h h14:=⟨U,λb hb hn=>(o14 b U).trans (m013.get b hb hn)⟩;have hcnt:=cntD_upd (c:=c) hdk N.na hkN;have hclt:=An hdk hkN;have hcn:∀f,cntD f N.na<=N.na:=λf=>vc _ _;rw[<-hdnE]at hcnt;have tail:∀(x:Int) (h15:AH),Mt (λb=>b=RB) h14 h15->h15.next=h14.next->Bk h15 RB ((dz (dy ts dn)).map (Value.int .i64)) 2->x=(cntD (cz ts dn) N.na:Int)->
   LP h15 q 0 λp5=>CI 125 [.pointer p5,η ν (k:Int)] h15 λx16 h17=>CI 136 [ψ (Y ⟨q,0,ξ⟩),ω (Y ⟨TB,0,ξ⟩) p.length (cx p.length),η ν x16] h17 λx17 h18=>CL 135 [ψ (Y ⟨q,0,ξ⟩),η ν x17,η ν (k:Int)] h18
    (λv4 h19=>∃A5 n6 K5 A6 n7 K6,v4 = .tuple #[ω A5 n6 K5,ω A6 n7 K6]/\∃(J4:Nat->Int->AH->Prop) (m8:Nat),J4 m8 0 h19/\∀(m7:Nat) x18 (h20:AH),J4 m7 x18 h20->TS (x18<(n6:Int))
     (NK x18 λk5=>AQ A5 λb_4 o_4=>k5<n6/\LI h20 b_4 (o_4+k5) λx19=>AQ A6 λb_5 o_5=>k5<n7/\LI h20 b_5 (o_5+k5) λx20=>LP h20 q 0 λp6=>CI 88 [.pointer p6,η ν x19] h20 λx21 h21=>ldC h21 b_5 (o_5+k5)=Y (η ν x20)/\NW h21 (.cells [η ν c,η ν x20,η ν x21] 2 false) λh22=>CI 95 [ω (Y ⟨h21.next,0,ξ⟩) 3 6] h22 λx22 h23=>TS (x22<1152921504606846976)
      (NK x19 λk6=>k6<N.na/\∃b4,ldC h23 DN (0+k6)=Y (.bool b4)/\BS b4 (WR ((k5:Int)+1) λx23=>RE m7 (J4 · x23 h23))
       (CB 90 [ψ (Y ⟨hh,0,ξ⟩),η ν (k6:Int),η ν x22] h23 λb5 h24=>WR ((k5:Int)+1) λx24=>RE m7 (J4 · x24 h24))) (WR ((k5:Int)+1) λx25=>RE m7 (J4 · x25 h23))) (RE (N.na - cntD done N.na) (JR · x h20))):=by
  intro x h15 m15 z15 r15 hx;have B15:=B14.off m15 λb hb=>by subst hb;exact⟨U,U,U,λhd=>(hD5 _ hd).elim (λh=>by have:=B.dlo _ h;omega) (λh=>U)⟩
  have d15:=m15.bk U U d14;have w15:=w14.keep (m15.get WM U U);have T15:=T14.off m15 λb hb e=>U;have H15:=H14.off m15 λb hb e=>by have:=hS5 b hb;omega
  have m015:Mt (λb=>b=mp) h h15:=m014.trans m15 λb hb hlt=>U;have hto:=(ab.to_lt hok hkN).1;refine⟨_,aa B15.blk rfl,GX (G.nw B15.nw) hkN ⟨_,rfl,Gl B15 hp T15 hto _ ⟨_,rfl,Ig B15 G O bc hC hco hsz hkN (EA N p (N.mks s ts)) (Gk hok hkN) λA4 K4 A5 K5 ol pr D' h10 hR B10 s4 s5 m10 hd1 hd2=>⟨_,_,_,_,_,_,rfl,?_⟩⟩⟩⟩;have z10:=m10.next;have hll:=hR.len;have hlf:=hR.few;have hD2:∀b,D' b->D b\/(DN<b/\¬S5 b):=λb hb=>(hd2 b hb).elim (λh=>(hD5 b h).imp id λh'=>⟨h',λhs=>(hS5 b hs).2.2 h⟩) λh=>.inr ⟨U,λhs=>by have:=hS5 b hs;omega⟩;have H10:=H15.off m10 λb hb e=>by have:=hS5 b hb;omega
  have d10:=m10.bk U U d15;have r10:=m10.bk U U r15;have w10:=w15.keep (m10.get WM U U);have T10:=T15.off m10 λb hb e=>U;have m010:Mt (λb=>b=mp) h h10:=m015.then m10;obtain⟨st,hst_⟩:∃st:Nat->(Nat->Option Nat)×(Nat->Nat),∀j,st j=dg dn k (rf N c ol pr j) (del w k,λ_=>0):=⟨_,λ_=>rfl⟩;have st0:st 0=(del w k,λ_=>0):=hst_ 0;obtain⟨E,hE⟩:∃E:Nat->Prop,∀b,E b↔(b<h0.next\/h15.next<=b\/D5 b)/\b<h10.next:=⟨_,λ_=>Iff.rfl⟩;have s4':Sa cI E h10 A4 ol.length K4 (ints ol):=s4.mono λb hb hlt=>(hE b).2 ⟨hb,hlt⟩;have s5':Sa cI E h10 A5 ol.length K5 pr:=s5.mono λb hb hlt=>(hE b).2 ⟨hb,hlt⟩;have hS5E:∀b,S5 b->¬E b:=λb hb he=>by
   have h1:=(hE b).1 he;have h2:=hS5 b hb;rcases h1.1 with h | h | h
   .omega
   .omega
   .exact h2.2.2 h
  obtain⟨J,hJ4⟩:∃J:Nat->Int->AH->Prop,∀m x h11,J m x h11↔∃(j:Nat) (S:Nat->Prop),x=j/\j<=ol.length/\m=ol.length - j/\bF h11 S hh N.na (st j).1/\(∀b,S b->S5 b\/(h10.next<=b/\b<h11.next))/\Mt S5 h10 h11:=⟨_,λ_ _ _=>Iff.rfl⟩;refine⟨J,ol.length,(hJ4 _ _ _).2 ⟨0,S5,rfl,Nat.zero_le _,rfl,by rw[st0];exact H10,λb hb=>.inl hb,Mt.refl _ _⟩,λm3 x8 h11 hj=>?_⟩;obtain⟨j,S,rfl,hj,rfl,H11,hS11,m11'⟩:=(hJ4 _ _ _).1 hj;have z11':=m11'.next;have B11':=B10.off m11' λb hb=>by have:=hS5 b hb;exact⟨U,U,U,λhd=>(hD2 b hd).elim (λh=>by have:=B.dlo _ h;omega) λh=>h.2 hb⟩
  have hSlt:∀b,S b->DN<b/\b<h11.next/\¬D' b:=λb hb=>(hS11 b hb).elim (λh=>by have:=hS5 b h;exact⟨U,U,λhd=>(hD2 b hd).elim (λh=>by have:=B.dlo _ h;omega) λh'=>h'.2 h⟩) (λh=>⟨U,h.2,λhd=>by have:=B10.dlo b hd;omega⟩);refine⟨λhlt=>?_,λhge=>?_⟩
  .obtain⟨b2,o2,x9,rfl,hF2,hb2,hx9,e9⟩:=(s4'.off m11' λb hb hs=>hS5E b hs hb).int (k:=j) U;obtain⟨b3,o3,x10,rfl,hF3,hb3,hx10,e10⟩:=(s5'.off m11' λb hb hs=>hS5E b hs hb).int (k:=j) U;obtain⟨bn,hbn,rfl⟩:∃bn:Nat,ol[j]? = Y bn/\x9=(bn:Int):=by
    unfold ints at hx9;rw[List.getElem?_map]at hx9;cases hv:ol[j]? with
    | none=>rw[hv]at hx9;cases hx9
    | some bn=>rw[hv]at hx9;exact⟨bn,rfl,(Option.some.inj hx9).symm⟩
   have hbl:=hR.lt bn (List.mem_of_getElem? hbn);have hx:=hR.nn x10 (List.mem_of_getElem? hx10);have hw:=ab.w_bd hok bn;have hsum:=If (c:=(c:Int)) (x:=x10) (w:=N.w bn) (by unfold aT bl at *;omega) hx (by unfold aT at *;omega);have fin:∀(h':AH) (S':Nat->Prop),Mt S h11 h'->(∀b,S' b->S b\/(h11.next<=b/\b<h'.next))->bF h' S' hh N.na (st (j+1)).1->∃x:Int,IntKind.i64.wrap ((j:Int)+1)=x/\∃m':Nat,m' < ol.length - j/\J m' x h':=λh' S' mm hS' H'=>by
    have hz:=mm.next;exact⟨((j+1:Nat):Int),by rw[Int.natCast_succ];exact ae U U,ol.length - (j+1),U,(hJ4 _ _ _).2 ⟨j+1,S',rfl,U,rfl,H',λb hb=>(hS' b hb).elim (λh=>(hS11 b h).imp id λh=>⟨h.1,U⟩) (λh=>.inr ⟨U,h.2⟩),m11'.trans mm λb hb hlt=>(hS11 b hb).elim id λh=>U⟩⟩
   refine⟨j,rfl,b2,o2,rfl,U,_,e9,b3,o3,rfl,U,_,e10,_,aa B11'.blk rfl,me (G.nw B11'.nw) hbl ⟨_,rfl,e10,λh13 e13=>?_⟩⟩;obtain⟨k13,g13,z13⟩:=aj e13;have same:st (j+1)=st j->∃x:Int,IntKind.i64.wrap ((j:Int)+1)=x/\∃m':Nat,m' < ol.length - j/\J m' x h13:=λe=>fin h13 S (Mt.of k13) (λb hb=>.inl hb) (by rw[e];exact H11.nw k13);refine KV (F:=λb=>b=h11.next) (Sa.of_ints (k:=.i64) (xs:=[(c:Int),x10,N.w bn]) g13 rfl rfl U) U ⟨_,rfl,λhlt2=>⟨bn,rfl,hbl,(dn bn).isSome,?_,λhdt=>?_,λhdf=>?_⟩,λhge2=>same ?_⟩
   .rw[aJ (k13.bk U (m11'.bk U (λhs=>by have:=hS5 _ hs;omega) d10)),Nat.zero_add];simp[oO,hbl]
   .refine same ?_;rw[hst_,hst_,nV,xm,hbn,hx10];simp only;rw[if_pos hlt2];show dg dn k (rf N c ol pr j ++ [_]) _=_;rw[rg,dL,if_neg (λh=>by rw[h]at hdt;exact Bool.noConfusion hdt)]
   .have hnn:dn bn=none:=by cases hd:dn bn with
     | none=>rfl
     | some y=>rw[hd]at hdf;exact Bool.noConfusion hdf
    have nx:(st (j+1)).1=iS (st j).1 bn (kR [(c:Int),x10,N.w bn]).toNat:=by
     rw[hst_,hst_,nV,xm,hbn,hx10];simp only;rw[if_pos hlt2];show(dg dn k (rf N c ol pr j ++ [_]) _).1=_;rw[rg,dL,if_pos hnn]
    exact fSq (H11.nw k13) hbl (by rw[hsum];unfold aT at *;omega) (by rw[hsum];unfold aT at *;omega) λh15 S15 H15 m15 g15=>⟨_,rfl,fin h15 S15 ((Mt.of k13).trans m15 λb hb _=>hb) (λb hb=>(g15 b hb).imp id λh=>⟨U,h.2⟩) (by rw[nx];exact H15)⟩
   .rw[hst_,hst_,nV,xm,hbn,hx10];simp only;rw[if_neg hge2];simp
  .obtain rfl:j=ol.length:=U;have hD':=hD.round (par:=λ_=>0) hqk hcI hmin (rf N c ol pr ol.length) (λb x _ he' hx _=>by rw[he]at he';exact hR.put hok hcI he' hx) (λb y hb _=>by rw[he];exact(hR.step hok hcI hb).2.2);rw[<-hdnE,<-hst_]at hD';refine⟨N.na - cntD dn N.na,U,(hJ _ _ _).2 ⟨dn,(st ol.length).1,D',S,B11',m11'.bk U (λhs=>by have:=hS5 _ hs;omega) r10,m11'.bk U (λhs=>by have:=hS5 _ hs;omega) d10,w10.keep (m11'.get WM U (λhs=>by have:=hS5 _ hs;omega)),T10.off m11' λb hb hs=>by have:=hS5 _ hs;omega,H11,hSlt,λb hb=>(hD2 b hb).imp id λh=>h.1,m010.trans m11' λb hs hlt=>by have:=hS5 _ hs;omega,U,hD',λb y hb=>?_,λa y ha=>?_,hx,rfl⟩⟩
   .rw[hst_]at hb;rcases jC _ _ hb with⟨h3,-⟩ | ⟨-,h4,-⟩
    .simp only[del]at h3;by_cases e:b=k
     .simp[e]at h3
     .rw[if_neg e]at h3;exact hwI b y h3
    .exact(hR.step hok hcI h4).1
   .rw[hdnE]at ha;simp only[upd]at ha;by_cases e:a=k
    .omega
    .rw[if_neg e]at ha;exact hdn a y ha
 have hdno:∀t,t≠k->done t=dn t:=λt ht=>by rw[hdnE];unfold upd;rw[if_neg ht]
 obtain⟨i1,i2,i3⟩:=tB;have look:=w14.look wZ i2 i3 rfl k true;refine⟨_,_,_,rfl,λ_=>⟨k,rfl,hkN,h14,s14,?_⟩,λh=>Bool.noConfusion h⟩;by_cases hkt:k∈ts
 .have ek:cz ts (λ_=>ξ) k=Y 0:=by unfold cz;rw[if_pos ⟨hkt,rfl⟩]
  rw[ek]at look;have hl:=xr (c:=c) hdk hkN hkt;rw[<-hdnE]at hl;have:=hcn (cz ts done);refine⟨0,true,look,λ_=>⟨((cntD (cz ts dn) N.na:Nat):Int),by rw[hl,ae U U];omega,tA,ts.length,tK,aa B14.blk rfl,λm x h15=>∃j:Nat,x=j/\j<=ts.length/\m=ts.length - j/\Bk h15 RB ((dz (pk ts done dn j)).map (Value.int .i64)) 2/\Mt (λb=>b=RB) h14 h15/\h15.next=h14.next,ts.length,⟨0,rfl,Nat.zero_le _,rfl,by rw[Ce];exact r14,Mt.refl _ _,rfl⟩,?_⟩,λh=>Bool.noConfusion h⟩;rintro m x h15 ⟨j,rfl,hj,rfl,r15,m15,z15⟩;have B15:=B14.off m15 λb hb=>by subst hb;exact⟨U,U,U,λhd=>(hD5 _ hd).elim (λh=>by have:=B.dlo _ h;omega) (λh=>U)⟩
  refine⟨λhlt=>?_,λhge=>?_⟩
  .have hjl:j<ts.length:=U;obtain⟨b,o',t,hA,ht,et⟩:=B.t_ B15.nw hjl;refine⟨j,rfl,b,o',hA,hjl,_,et,λhe=>⟨hjl,?_⟩,λhne=>⟨_,wr1 hjl,ts.length - (j+1),U,j+1,rfl,hjl,rfl,?_,m15,z15⟩⟩
   .obtain rfl:t=k:=U;obtain⟨h16,s16,b16,z16,o16⟩:=da r15 (k:=j) (by unfold dz;rw[List.length_map,ED];exact hjl) (c:Int);refine⟨h16,s16,_,wr1 hjl,ts.length - (j+1),U,j+1,rfl,hjl,rfl,?_,⟨U,λb hb hn=>(o16 b hn).trans (m15.get b hb hn)⟩,U⟩;have ed:dn t=Y c:=by rw[hdnE];unfold upd;rw[if_pos rfl]
    rw[tF done dn ht,ed];unfold dz at b16⊢;rw[List.map_set];exact b16
   .rw[Cf done dn ht (hdno t λe=>hne (by rw[e]))];exact r15
  .obtain rfl:j=ts.length:=U;rw[EC]at r15;exact tail _ h15 m15 z15 r15 rfl
 .have ek:cz ts (λ_=>ξ) k=none:=by unfold cz;rw[if_neg λh=>hkt h.1]
  rw[ek]at look;refine⟨0,false,look,λh=>Bool.noConfusion h,λ_=>tail _ h14 (Mt.refl _ _) rfl ?_ ?_⟩
  .rw[<-y8 λt ht=>hdno t λe=>hkt (e ▸ ht)];exact r14
  .rw[hdnE,Cc hkt]
end
end Eva
end
section
open Go Go.RowKit
structure vi (N:ab) (ss ts:List Nat) (T:List (List Nat)):Prop where
 len:T.length=ss.length
 row:∀(i:Nat) (r:List Nat),T[i]? = Y r->r.length=ts.length
 get:∀(i k s t:Nat) (r:List Nat) (d:Nat),ss[i]? = Y s->ts[k]? = Y t->T[i]? = Y r->r[k]? = Y d->iG N s t d
namespace Eva
theorem xu {l:List Nat}{k:Nat}{x:Int}(h:(ints l)[k]? = Y x):∃t:Nat,l[k]? = Y t/\x=(t:Int):=by
 unfold ints at h;rw[List.getElem?_map]at h;cases hv:l[k]? with
 | none=>rw[hv]at h;cases h
 | some t=>rw[hv]at h;exact⟨t,rfl,(Option.some.inj h).symm⟩
section
variable {h h0:AH}{Q:Value->AH->Prop}{Fa F Fo:Nat->Prop}{N:ab}{p:List (List Int)}{ss ts:List Nat}{g o C K2 K3:Nat}{A2 A3:Option Addr}{costs:List Int}
theorem AC {l:List Nat}{A:Option Addr}{n K:Nat}{S:ByteArray}(G:gS h Fa F g N){E:Nat->Prop}(hs:Sa cI E h A n K (ints l)) (hl:∀t∈l,t<N.na) (hn:n<=1000) (hK:Q .nilIface h):WC Tryz.prog 62 [ψ (Y ⟨g,0,ξ⟩),.string S,ω A n K] h Q:=by
 have hna:=G.few.2;refine uJ ⟨λm x h1=>∃i:Nat,x=i/\i<=n/\m=n - i/\h1=h,n,⟨0,rfl,Nat.zero_le _,rfl,rfl⟩,?_⟩;rintro m x h1 ⟨i,rfl,hi,rfl,rfl⟩;refine⟨λhlt=>?_,λ_=>hK⟩;obtain⟨b,o,x,hA,-,-,hx,e⟩:=hs.int (k:=i) U;obtain⟨t,ht,rfl⟩:=xu hx;have:=hl t (List.mem_of_getElem? ht);exact⟨i,rfl,b,o,hA,U,_,e,λh=>absurd h U,λ_=>tm G ⟨_,rfl,λh=>absurd h U,λ_=>⟨_,ae U U,n - (i+1),U,i+1,U,U,rfl,rfl⟩⟩⟩
theorem y9 (O:fE h Fo o N p) (s2:Sa cI (λb=>b<h.next) h A3 ts.length K3 (ints ts)) (hK:∀q mp cA cK D h',MQ h N p g o C ts A3 K3 q mp cA cK D h'->Q (ψ (Y ⟨q,0,ξ⟩)) h') :
  WC Tryz.prog 63 [ψ (Y ⟨g,0,ξ⟩),ψ (Y ⟨o,0,ξ⟩),ω (Y ⟨C,0,ξ⟩) (N.size p) (cx (N.size p)),ω A3 ts.length K3] h Q:=by
 refine ph (Ha O λA2 K2 h1 s1 k1=>⟨_,_,_,rfl,λh2 e2 h3 e3=>?_⟩);obtain⟨k2,g2,z2⟩:=aj e2;obtain⟨k3,g3,z3⟩:=aj e3;have z1:=k1.next;exact hK h2.next h1.next A2 K2 (λb=>h.next<=b/\b<h1.next) h3 ⟨(k1.trans k2).trans k3,g3,((s1.mono λb hb hlt=>⟨hb,hlt⟩).nw k2).nw k3,⟨λ_=>ξ,(cX.new g2).keep (k3.get _ U),λl c v hv=>by cases hv⟩,s2,λb hb=>U,U⟩
theorem Ih (G:gS h Fa F g N) (O:fE h Fo o N p) (bc:Bk h C (costs.map (Value.int .i64)) 2) (hC:C<h.next) (hco:cZ N p costs) (hsz:N.size p<1000000)
  (s1:Sa cI (λb=>b<h.next) h A2 ss.length K2 (ints ss)) (s2:Sa cI (λb=>b<h.next) h A3 ts.length K3 (ints ts)) (hss:∀s∈ss,s<N.na) (hts:∀t∈ts,t<N.na) (hls:ss.length<=64) (hlt:ts.length<=64)
  (hK:∀(T:List (List Nat)) (TB:Nat) h',Sa aM (λb=>h.next<=b) h' (Y ⟨TB,0,ξ⟩) ss.length (cx ss.length) (T.map dz)->vi N ss ts T->Nw h h'->Q (.tuple #[ω (Y ⟨TB,0,ξ⟩) ss.length (cx ss.length),.nilIface]) h') :
  WC Tryz.prog 29 [ψ (Y ⟨g,0,ξ⟩),ψ (Y ⟨o,0,ξ⟩),ω (Y ⟨C,0,ξ⟩) (N.size p) (cx (N.size p)),ω A2 ss.length K2,ω A3 ts.length K3] h Q:=by
 refine uI ⟨λh=>absurd h U,λ_=>⟨λh=>absurd h U,λ_=>D1 O ⟨_,rfl,λ_=>AC G s1 hss U ⟨ξ,rfl,λ_=>AC G s2 hts U ⟨ξ,rfl,λ_=>y9 O s2 λq mp cA cK D h6 B6=>⟨_,rfl,U,λh7 e7=>?_⟩,λt u h=>by cases h⟩,λt u h=>by cases h⟩,λh=>absurd rfl h⟩⟩⟩;obtain⟨k7,g7,z7⟩:=aj e7;rw[aQ]at g7;obtain⟨TB,hTB⟩:∃TB,TB=h6.next:=⟨_,rfl⟩;rw[<-hTB]at g7⊢;have z6:=B6.nw.next;obtain⟨P1,P2,P3,P4,P5⟩:=B6.pos;obtain⟨vf,hvf⟩:∃vf:Nat->Value,∀r,vf r = ω (Y ⟨r,0,ξ⟩) ts.length (cx ts.length):=⟨_,λ_=>rfl⟩;refine⟨λm x h8=>∃(i:Nat) (rs:List Nat) (T:List (List Nat)) (D8:Nat->Prop),x=i/\i<=ss.length/\m=ss.length - i/\rs.length=i/\Bk h8 TB (rs.map vf ++ List.replicate (ss.length - i) (ω ξ 0 0)) 43/\MQ h N p g o C ts A3 K3 q mp cA cK D8 h8/\(∀b,D8 b->b<TB\/(TB<b))/\vi N (ss.take i) ts T/\TB<h8.next/\(∀j r row,rs[j]? = Y r->T[j]? = Y row->TB<r/\r<h8.next/\Bk h8 r ((dz row).map (Value.int .i64)) 2),ss.length,⟨0,[],[],D,rfl,Nat.zero_le _,rfl,rfl,g7,B6.next k7,λb hb=>by have:=B6.dlo b hb;omega,⟨rfl,λi r h=>by simp at h,λi k s t r d _ _ h=>by simp at h⟩,U,λj r row hj=>absurd (List.mem_of_getElem? hj) List.not_mem_nil⟩,?_⟩;rintro m x h8 ⟨i,rs,T,D8,rfl,hi,rfl,hrl,b8,B8,hD8,hT,l8,hrs⟩;have z8:=B8.nw.next;have hTl:T.length=i:=by rw[hT.len,List.length_take];omega
 refine⟨λhlt=>?_,λhge=>?_⟩
 .have hil:i<ss.length:=U;obtain⟨b,o',x,hA,-,-,hx,e⟩:=(s1.nw B8.nw).int hil;obtain⟨s,hsi,rfl⟩:=xu hx;refine⟨i,rfl,b,o',hA,hil,_,e,JJ B8 G O bc hC hco hsz (hss s (List.mem_of_getElem? hsi)) hts U λRB ds D9 h9 b9 lo9 hi9 dl9 hd9 B9 m9 nD9 gD9=>⟨_,_,_,rfl,hil,?_⟩⟩;have z9:=m9.next;have t9:=m9.bk l8 U b8;obtain⟨h10,s10,b10,z10,o10⟩:=ax (v:=vf RB) t9 (o:=0+i) (by simp;omega) (by rw[hvf];rfl);rw[hvf]at s10;have t10:Bk h10 TB ((rs ++ [RB]).map vf ++ List.replicate (ss.length - (i+1)) (ω ξ 0 0)) 43:=by
   have e:=mu (xs:=rs.map vf) (n:=ss.length) (z:=ω ξ 0 0) (v:=vf RB) (by simp;omega);rw[List.length_map,hrl]at e;rw[Nat.zero_add,e]at b10;rw[List.map_append];exact b10
  have hsT:ss.take (i+1)=ss.take i ++ [s]:=by rw[List.take_add_one,hsi];rfl
  have hsl:(ss.take i).length=i:=by rw[List.length_take];omega
  refine⟨h10,s10,_,ae U U,ss.length - (i+1),U,i+1,rs ++ [RB],T ++ [ds],D9,U,hil,rfl,by simp[hrl],t10,B9.off (S:=λb=>b=TB) ⟨U,λb _ hb=>o10 b hb⟩ (λb hb=>by subst hb;exact⟨U,U,U,λhd=>(gD9 _ hd).elim (λh=>by have:=hD8 _ h;omega) (λh=>U)⟩),λb hb=>(gD9 b hb).elim (hD8 b) λh=>.inr U,?_,U,λj r row hr hrow=>?_⟩
  .refine⟨by rw[List.length_append,hTl,hsT,List.length_append,hsl];rfl,λj r hr=>?_,λj k s' t r d hs' ht hr hd=>?_⟩
   .by_cases hj:j<T.length
    .rw[List.getElem?_append_left hj]at hr;exact hT.row j r hr
    .rw[List.getElem?_append_right U]at hr;cases hjj:j - T.length with
     | zero=>
      rw[hjj]at hr;obtain rfl:=Option.some.inj hr;exact dl9
     | succ n=>rw[hjj]at hr;simp at hr
   .by_cases hj:j<T.length
    .rw[List.getElem?_append_left hj]at hr;rw[hsT,List.getElem?_append_left U]at hs';exact hT.get j k s' t r d hs' ht hr hd
    .rw[List.getElem?_append_right U]at hr;rw[hsT,List.getElem?_append_right U,hsl,<-hTl]at hs';cases hjj:j - T.length with
     | zero=>
      rw[hjj]at hr hs';obtain rfl:=Option.some.inj hr;obtain rfl:=Option.some.inj hs';exact hd9 k t d ht hd
     | succ n=>rw[hjj]at hr;simp at hr
  .by_cases hj:j<rs.length
   .rw[List.getElem?_append_left hj]at hr;rw[List.getElem?_append_left U]at hrow;obtain⟨q1,q2,q3⟩:=hrs j r row hr hrow;exact⟨q1,U,(o10 r U).trans (m9.bk q2 U q3)⟩
   .rw[List.getElem?_append_right U]at hr;rw[List.getElem?_append_right U,hTl,<-hrl]at hrow;cases hjj:j - rs.length with
    | zero=>
     rw[hjj]at hr hrow;obtain rfl:=Option.some.inj hr;obtain rfl:=Option.some.inj hrow;exact⟨U,U,(o10 _ U).trans b9⟩
    | succ n=>rw[hjj]at hr;simp at hr
 .obtain rfl:i=ss.length:=U;rw[Nat.sub_self,List.replicate_zero,List.append_nil]at b8;rw[List.take_length]at hT;refine hK T TB h8 (Sa.of_bk b8 (by rw[List.length_map];exact hTl) U l8 λk row hk=>?_) hT B8.nw;rw[List.getElem?_map]at hk;cases hv:T[k]? with
  | none=>rw[hv]at hk;cases hk
  | some row0=>
   rw[hv]at hk;obtain rfl:=Option.some.inj hk;have hkl:=(List.getElem?_eq_some_iff.1 hv).1;obtain⟨r,hr⟩:∃r,rs[k]? = Y r:=⟨_,List.getElem?_eq_getElem U⟩;obtain⟨q1,q2,q3⟩:=hrs k r row0 hr hv;refine⟨Y ⟨r,0,ξ⟩,ts.length,cx ts.length,?_,Sa.of_ints q3 (by unfold dz;rw[List.length_map];exact hT.row k row0 hv) U q2⟩;show((rs.map vf).drop (k*1)).take 1=_;rw[Nat.mul_one];rw[du (a:=vf r) (by rw[List.getElem?_map,hr];exact Option.map_some ..),hvf]
end
end Eva
end
end Go.Proofs.YtaagdjkinbemcaaGreatDoor
