/-
Lemmas for TopEntries. No condition.
-/
import Derived.Test.YtaomlhopkfmheaaGreatDoorPi
import Derived.Test.YtaomlhopkfmheaaGreatDoorW7
import Derived.Test.YtaomlhopkfmheaaGreatDoorPh
import Derived.Test.YtaomlhopkfmheaaGreatDoorPd
import Derived.Test.YtaomlhopkfmheaaGreatDoorPe
namespace Go.Proofs.YtaomlhopkfmheaaGreatDoor
set_option linter.unusedVariables false
set_option linter.unusedSimpArgs false
set_option linter.unusedSectionVars false
set_option linter.unnecessarySimpa false
section
open Go Go.RowKit
namespace Eva
section
variable {h h':AH}{Fa Fv Ft:Nat->Prop}{Q:Value->AH->Prop}{A Av Aa At:Option Addr}{n K nv Kv na Ka nt Kt:Nat}{vs xa:List Tri}{ts:List Tab}
structure GrX (h:AH) (Fa Ft F:Nat->Prop) (g:Nat) (N:ab):Prop where
 own:F g/\g<h.next
 verts:∃A n K,ldC h g 0=some (.slice A n K)/\Sa aJ F h A n K N.vs
 arcs:∃A n K,ldC h g 1=some (.slice A n K)/\al aJ h Fa 285 A n K N.xa
 types:∃A n K,ldC h g 2=some (.slice A n K)/\al dM h Ft 271 A n K N.ts
 ins:∃A n K,ldC h g 3=some (.slice A n K)/\Sa aY F h A n K (N.endsL false)
 outs:∃A n K,ldC h g 4=some (.slice A n K)/\Sa aY F h A n K (N.endsL true)
 pls:∃A n K,ldC h g 5=some (.slice A n K)/\Sa cPr F h A n K N.plL
 ok:N.Ok
 few:N.nv<=1000/\N.na<=1000
 dj:∀z,(Fa z->¬Ft z/\¬F z)/\(Ft z->¬F z)
theorem GrX.gr {g:Nat}{N:ab}{F:Nat->Prop}(X:GrX h Fa Ft F g N):GrA h Fa (λz=>F z\/Ft z) g N:=by
 obtain⟨o,⟨a1,a2,a3,a4,a5⟩,⟨b1,b2,b3,b4,b5⟩,⟨c1,c2,c3,c4,c5⟩,⟨d1,d2,d3,d4,d5⟩,⟨e1,e2,e3,e4,e5⟩,⟨f1,f2,f3,f4,f5⟩,ok,fw,dj⟩:=X
 exact⟨⟨.inl o.1,o.2⟩,⟨a1,a2,a3,a4,a5.mono λz hz _=>.inl hz⟩,⟨b1,b2,b3,b4,b5.sa⟩,⟨c1,c2,c3,c4,c5.sa.mono λz hz _=>.inr hz⟩,⟨d1,d2,d3,d4,d5.mono λz hz _=>.inl hz⟩,⟨e1,e2,e3,e4,e5.mono λz hz _=>.inl hz⟩,⟨f1,f2,f3,f4,f5.mono λz hz _=>.inl hz⟩,ok,fw⟩
theorem GrX.keep {g:Nat}{N:ab}{F:Nat->Prop}(X:GrX h Fa Ft F g N) (hk:∀b,Fa b\/Ft b\/F b->b<h.next->h'.get b=h.get b) (hn:h.next<=h'.next):GrX h' Fa Ft F g N:=by
 obtain⟨o,⟨a1,a2,a3,a4,a5⟩,⟨b1,b2,b3,b4,b5⟩,⟨c1,c2,c3,c4,c5⟩,⟨d1,d2,d3,d4,d5⟩,⟨e1,e2,e3,e4,e5⟩,⟨f1,f2,f3,f4,f5⟩,ok,fw,dj⟩:=X
 have hg:∀j,ldC h' g j=ldC h g j:=λj=>aW (hk g (.inr (.inr o.1)) o.2) j
 have kF:∀b,F b->b<h.next->h'.get b=h.get b:=λb hb=>hk b (.inr (.inr hb))
 exact⟨⟨o.1,Nat.lt_of_lt_of_le o.2 hn⟩,⟨a1,a2,a3,(hg _).trans a4,a5.keep kF hn⟩,⟨b1,b2,b3,(hg _).trans b4,b5.keep (λb hb=>hk b (.inl hb)) hn⟩,⟨c1,c2,c3,(hg _).trans c4,c5.keep (λb hb=>hk b (.inr (.inl hb))) hn⟩,⟨d1,d2,d3,(hg _).trans d4,d5.keep kF hn⟩,⟨e1,e2,e3,(hg _).trans e4,e5.keep kF hn⟩,⟨f1,f2,f3,(hg _).trans f4,f5.keep kF hn⟩,ok,fw,dj⟩
theorem GrX.nw {g:Nat}{N:ab}{F:Nat->Prop}(X:GrX h Fa Ft F g N) (a:Nw h h'):GrX h' Fa Ft F g N:=X.keep (λb _ hb=>a.get b hb) a.next
theorem xI (sv:Sa aJ Fv h Av nv Kv vs) (sa:Sa aJ Fa h Aa na Ka xa) (st:Sa dM Ft h At nt Kt ts) (ok:pH vs xa ts) (hfew:nv<=1000/\na<=1000)
  (hK:∀g h' Fa Ft F,GrX h' Fa Ft F g ⟨vs,xa,ts⟩->(∀z,Fa z\/Ft z\/F z->h.next<=z)->Nw h h'->Q (.tuple #[.pointer (some ⟨g,0,none⟩),.nilIface]) h') :
  WC Tryz.prog 140 [.agg #[.slice Av nv Kv,.slice Aa na Ka,.slice At nt Kt]] h Q:=by
 refine sN λh1 e1=>?_
 obtain⟨k1,g1,z1⟩:=aj e1
 have bN:∀{h'},Nw h1 h'->ldN h' h.next 0 3=some [.slice Av nv Kv,.slice Aa na Ka,.slice At nt Kt]:=λa=>aG (aa (a.bk (by omega) g1) rfl) (aa (a.bk (by omega) g1) rfl) (aa (a.bk (by omega) g1) rfl)
 refine⟨_,_,_,_,_,_,_,_,_,bN (Nw.refl _),xH (sv.nw k1) (sa.nw k1) (st.nw k1) ok λh2 k2=>⟨none,rfl,λ_=>⟨_,_,_,_,_,_,_,_,_,bN k2,?_⟩,λt u h=>by cases h⟩⟩
 have k12:=k1.trans k2
 refine wd (sv.nw k12) (sa.nw k12) (st.nw k12) ok λD3 A1 K1 A2 K2 A3 K3 h3 c1 c2 c3 lo lo3 k3=>⟨_,_,_,_,_,_,_,_,_,rfl,?_⟩
 have z2:=k12.next
 have z3:=k3.next
 refine C6 c1 c2.sa c3.sa ok hfew λg h4 g1 g2 i0 i1 i2 i3 i4 i5 k4=>⟨_,rfl,?_⟩
 obtain⟨d1,d2,d3,d4,d5⟩:=i3
 obtain⟨e1,e2,e3,e4,e5⟩:=i4
 obtain⟨f1,f2,f3,f4,f5⟩:=i5
 have c2':=c2.nw k4
 have c3':al dM h3 (λz=>D3 z/\z<h3.next) 271 A3 nt K3 ts:=c3.mono λz hz hl=>⟨hz,hl⟩
 refine hK g h4 (af A2) (λz=>D3 z/\z<h3.next) (λz=>(h.next<=z/\¬af A2 z/\¬D3 z)\/h3.next<=z) ⟨⟨.inr g1,g2⟩,⟨_,_,_,i0,(c1.nw k4).mono λz hz _=>.inl ⟨by omega,hz.2⟩⟩,⟨_,_,_,i1,c2'⟩,⟨_,_,_,i2,c3'.nw k4⟩,⟨d1,d2,d3,d4,d5.mono λz hz _=>.inr hz⟩,⟨e1,e2,e3,e4,e5.mono λz hz _=>.inr hz⟩,⟨f1,f2,f3,f4,f5.mono λz hz _=>.inr hz⟩,ok,?_,λz=>⟨λhz=>⟨λhd=>(lo z hz).2 hd.1,λhf=>hf.elim (λhf=>hf.2.1 hz) λhf=>by have:=c2.own hz;omega⟩,λhd hf=>hf.elim (λhf=>hf.2.2 hd.1) λhf=>by omega⟩⟩ (λz hz=>?_) ((k12.trans k3).trans k4)
 ·have lv:=sv.len
  have la:=sa.len
  unfold ab.nv ab.na
  simp only
  omega
 ·rcases hz with hz | hz | hz | hz
  ·have:=(lo z hz).1;omega
  ·have:=lo3 z hz.1;omega
  ·omega
  ·omega
theorem nX {h1:AH}{b:Nat}{t:TypeId}{α:Type}{r:Rc α}{F:Nat->Prop}{bytes:Nat}{xs:List α}(hr:nQ r) (hT:tyB Tryz.prog t r.size bytes=true) (hs:Sz r F h A n K xs) (hn:n*bytes<1000000) (hn':n<1000000) (k1:Nw h h1) (g1:Bk h1 b [] t) (hb:h.next<=b) (hlt:b<h1.next) :
  ∃A' K' h',ai Tryz.prog h1 (some (.slice t)) (some (.slice t)) (.slice (some ⟨b,0,none⟩) 0 0) (.slice A n K)=some (.slice A' n K',h')/\al r h' (af A') t A' n K' xs/\Mt (λz=>z=b) h1 h'/\(∀z,af A' z->z=b\/(h1.next<=z/\z<h'.next)):=by
 have hB:al r h1 (af (some ⟨b,0,none⟩)) t (some ⟨b,0,none⟩) 0 (2*0) []:=al.lit (xs:=[]) (n:=0) g1 rfl (by omega) rfl (by simp) (by simp) (by simp)
 obtain⟨A',K',h',x1,x2,x3,x4⟩:=aX hr hT hB (hs.nw k1) (by rw[Nat.zero_add];omega) (by omega)
 rw[Nat.zero_add]at x1 x2
 rw[List.nil_append]at x2
 exact⟨A',K',h',x1,x2,x3.mono λz hz _=>hz,λz hz=>(x4 z hz).imp id id⟩
theorem Ez {p q:Int}{F:Nat->Prop}{xs:List Int}(hs:Sz cI F h A n K xs) (hn:n<=10000) (hK:∀A' K' h',Sa cI (λz=>h.next<=z) h' A' n K' xs->Nw h h'->Q (.agg #[.int .i64 p,.int .i64 q,.slice A' n K']) h') :
  WC Tryz.prog 215 [.agg #[.int .i64 p,.int .i64 q,.slice A n K]] h Q:=by
 refine xW λh1 e1 h2 e2=>?_
 obtain⟨k1,g1,z1⟩:=aj e1
 obtain⟨k2,g2,z2⟩:=aj e2
 refine⟨p,aa (k2.bk (by omega) g1) rfl,q,aa (k2.bk (by omega) g1) rfl,λh3 e3=>?_⟩
 obtain⟨k3,g3,z3⟩:=aj e3
 obtain⟨A',K',h4,x1,x2,x3,x4⟩:=nX (r:=cI) (bytes:=8) (t:=2) dX (by kernel_rfl) hs (by omega) (by omega) ((k1.trans k2).trans k3) g3 (by omega) (by omega)
 have z4:=x3.next
 have g14:=x3.bk (by omega) (by omega) ((k2.trans k3).bk (by omega) g1)
 obtain⟨h5,s5,b5,z5,o5⟩:=bI (vs:=[.int .i64 p,.int .i64 q,.slice A' n K']) (x3.bk (by omega) (by omega) (k3.bk (by omega) g2)) rfl (by simp[flat])
 have m5:Mt (λz=>z=h1.next) h4 h5:=⟨by omega,λz _ hn=>o5 z hn⟩
 refine⟨_,_,_,aa ((k2.trans k3).bk (by omega) g1) rfl,A',n,K',h4,x1,aa g14 rfl,aa g14 rfl,h5,s5,_,_,_,_,_,aG (aa b5 rfl) (aa b5 rfl) (aa b5 rfl),hK A' K' h5 ((x2.off m5 λz hz _ e=>by rcases x4 z hz with h | h <;>omega).sa.mono λz hz _=>by rcases x4 z hz with h | h <;>omega) ?_⟩
 exact((x3.mono (S':=λz=>h.next<=z) λz hz _=>by omega).then (m5.mono λz hz _=>by omega)).is_nw ((k1.trans k2).trans k3) λz hz=>hz
end
end Eva
end
section
open Go Go.RowKit
namespace Eva
section
variable {h h':AH}{Fa Fv Ft F:Nat->Prop}{Q:Value->AH->Prop}{A Av Aa At:Option Addr}{n K nv Kv na Ka nt Kt:Nat}{vs xa:List Tri}{ts:List Tab}{p:List (List Int)}
theorem EB (sv0:Sz aJ Fv h Av nv Kv vs) (sa0:Sz aJ Fa h Aa na Ka xa) (st0:Sz Rc.tableZ Ft h At nt Kt ts) (hv:nv<=10000) (ha:na<=10000) (ht:nt<=10000) (hc:∀t∈ts,t.2.2.length<=10000)
  (hK:∀A1 K1 A2 K2 A3 K3 h',Sa aJ (λz=>h.next<=z) h' A1 nv K1 vs->Sa aJ (λz=>h.next<=z) h' A2 na K2 xa->Sa dM (λz=>h.next<=z) h' A3 nt K3 ts->Nw h h'->Q (.agg #[.slice A1 nv K1,.slice A2 na K2,.slice A3 nt K3]) h') :
  WC Tryz.prog 141 [.agg #[.slice Av nv Kv,.slice Aa na Ka,.slice At nt Kt]] h Q:=by
 have sv:Sz aJ (λz=>z<h.next) h Av nv Kv vs:=sv0.mono λz _ hz=>hz
 have sa:Sz aJ (λz=>z<h.next) h Aa na Ka xa:=sa0.mono λz _ hz=>hz
 have st:Sz Rc.tableZ (λz=>z<h.next) h At nt Kt ts:=st0.mono λz _ hz=>hz
 have lv:=sv.len
 have la:=sa.len
 have lt:=st.len
 refine xV λh1 e1 h2 e2 h3 e3=>?_
 obtain⟨k1,g1,z1⟩:=aj e1
 obtain⟨k2,g2,z2⟩:=aj e2
 obtain⟨k3,g3,z3⟩:=aj e3
 have k13:=(k1.trans k2).trans k3
 refine⟨λm x h4=>∃(i:Nat) (A1:Option Addr) (K1:Nat),x=i/\i<=nv/\m=nv - i/\Bk h4 h2.next [.slice A1 i K1,.slice none 0 0,.slice none 0 0] 209/\al aJ h4 (af A1) 272 A1 i K1 (vs.take i)/\(∀z,af A1 z->h3.next<=z)/\Mt (λz=>z=h2.next) h3 h4,nv,⟨0,none,0,rfl,Nat.zero_le _,rfl,g3,al.nil _ _ _ _,λz hz=>hz.elim,Mt.refl _ _⟩,?_⟩
 rintro m x h4 ⟨i,A1,K1,rfl,hi,hm,b4,o1,lo1,m4⟩
 have z4:=m4.next
 have k14:Nw h h4:=m4.is_nw k13 λz hz=>by omega
 have g14:Bk h4 h.next [.slice Av nv Kv,.slice Aa na Ka,.slice At nt Kt] 26:=m4.bk (by omega) (by omega) ((k2.trans k3).bk (by omega) g1)
 have g24:Bk h4 h1.next [.slice none 0 0,.slice none 0 0,.slice none 0 0] 209:=m4.bk (by omega) (by omega) (k3.bk (by omega) g2)
 refine⟨_,_,_,aa g14 rfl,λhlt=>?_,λhge=>?_⟩
 ·obtain⟨b,o,x,y,z,hA,-,-,hx,e0,e1',e2'⟩:=(sv.nw k14).tri (k:=i) (by omega)
  refine⟨_,_,_,aa b4 rfl,_,_,_,aa g14 rfl,i,rfl,b,o,hA,by omega,_,e0,_,_,_,aa g14 rfl,b,o,hA,by omega,_,e1',_,_,_,aa g14 rfl,b,o,hA,by omega,_,e2',λh5 e5=>?_⟩
  obtain⟨k5,g5,z5⟩:=aj e5
  obtain⟨A9,K9,h6,y1,y2,y3,y4⟩:=aX (r:=aJ) (bytes:=24) (eu _ _ _) (by kernel_rfl) (o1.nw k5) (Sz.one (r:=aJ) (L:=2) (x:=(x,y,z)) (F:=λz=>z=h4.next) g5 rfl (by omega) rfl rfl) (by omega) (by omega)
  have z6:=y3.next
  obtain⟨h7,s7,b7,z7,o7⟩:=aA (v:=.slice A9 (i+1) K9) (y3.bk (by omega) (λho=>by have:=lo1 _ ho;omega) (k5.bk (by omega) b4)) (o:=0) (by simp) rfl
  have m7:Mt (λz=>z=h2.next) h6 h7:=⟨by omega,λz _ hn=>o7 z hn⟩
  have lo9:∀z,af A9 z->h3.next<=z:=λz hz=>(y4 z hz).elim (lo1 z) (λh=>by omega)
  refine⟨A9,i+1,K9,h6,y1,h7,s7,_,wrS (by omega),nv - (i+1),by omega,i+1,A9,K9,rfl,by omega,rfl,b7,?_,lo9,((m4.nw k5).trans y3 λz hz hlt=>by have:=lo1 z hz;omega).then m7⟩
  rw[List.take_add_one,hx]
  exact y2.off m7 λz hz _ e=>by have:=lo9 z hz;omega
 ·obtain rfl:i=nv:=by omega
  rw[List.take_of_length_le (by omega)]at o1
  refine⟨λm x h8=>∃(j:Nat) (A2:Option Addr) (K2:Nat),x=j/\j<=na/\m=na - j/\Bk h8 h2.next [.slice A1 i K1,.slice A2 j K2,.slice none 0 0] 209/\al aJ h8 (af A2) 285 A2 j K2 (xa.take j)/\(∀z,af A2 z->h4.next<=z)/\Mt (λz=>z=h2.next) h4 h8,na,⟨0,none,0,rfl,Nat.zero_le _,rfl,b4,al.nil _ _ _ _,λz hz=>hz.elim,Mt.refl _ _⟩,?_⟩
  rintro m' x h8 ⟨j,A2,K2,rfl,hj,hm',b8,o2,lo2,m8⟩
  have z8:=m8.next
  have k18:Nw h h8:=m8.is_nw k14 λz hz=>by omega
  have g18:=m8.bk (by omega) (by omega) g14
  have g28:=m8.bk (by omega) (by omega) g24
  refine⟨_,_,_,aa g18 rfl,λhlt=>?_,λhge'=>?_⟩
  ·obtain⟨b,o,x,y,z,hA,-,-,hx,e0,e1',e2'⟩:=(sa.nw k18).tri (k:=j) (by omega)
   refine⟨_,_,_,aa b8 rfl,_,_,_,aa g18 rfl,j,rfl,b,o,hA,by omega,_,e0,_,_,_,aa g18 rfl,b,o,hA,by omega,_,e1',_,_,_,aa g18 rfl,b,o,hA,by omega,_,e2',λh5 e5=>?_⟩
   obtain⟨k5,g5,z5⟩:=aj e5
   obtain⟨A9,K9,h6,y1,y2,y3,y4⟩:=aX (r:=aJ) (bytes:=24) (eu _ _ _) (by kernel_rfl) (o2.nw k5) (Sz.one (r:=aJ) (L:=2) (x:=(x,y,z)) (F:=λz=>z=h8.next) g5 rfl (by omega) rfl rfl) (by omega) (by omega)
   have z6:=y3.next
   obtain⟨h7,s7,b7,z7,o7⟩:=aA (v:=.slice A9 (j+1) K9) (y3.bk (by omega) (λho=>by have:=lo2 _ ho;omega) (k5.bk (by omega) b8)) (o:=1) (by simp) rfl
   have m7:Mt (λz=>z=h2.next) h6 h7:=⟨by omega,λz _ hn=>o7 z hn⟩
   have lo9:∀z,af A9 z->h4.next<=z:=λz hz=>(y4 z hz).elim (lo2 z) (λh=>by omega)
   refine⟨A9,j+1,K9,h6,y1,h7,s7,_,wrS (by omega),na - (j+1),by omega,j+1,A9,K9,rfl,by omega,rfl,b7,?_,lo9,((m8.nw k5).trans y3 λz hz hlt=>by have:=lo2 z hz;omega).then m7⟩
   rw[List.take_add_one,hx]
   exact y2.off m7 λz hz _ e=>by have:=lo9 z hz;omega
  ·obtain rfl:j=na:=by omega
   rw[List.take_of_length_le (by omega)]at o2
   refine⟨λm x h12=>∃(l:Nat) (D:Nat->Prop) (A3:Option Addr) (K3:Nat),x=l/\l<=nt/\m=nt - l/\Bk h12 h2.next [.slice A1 i K1,.slice A2 j K2,.slice A3 l K3] 209/\al dM h12 D 271 A3 l K3 (ts.take l)/\(∀z,D z->h8.next<=z/\z<h12.next)/\Mt (λz=>z=h2.next) h8 h12,nt,⟨0,λ_=>False,none,0,rfl,Nat.zero_le _,rfl,b8,al.nil _ _ _ _,λz hz=>hz.elim,Mt.refl _ _⟩,?_⟩
   rintro m3 x h12 ⟨l,D,A3,K3,rfl,hl,hm3,b12,o3,hD,m12⟩
   have z12:=m12.next
   have k112:Nw h h12:=m12.is_nw k18 λz hz=>by omega
   have g112:=m12.bk (by omega) (by omega) g18
   have g212:=m12.bk (by omega) (by omega) g28
   refine⟨_,_,_,aa g112 rfl,λhlt=>?_,λhge3=>?_⟩
   ·obtain⟨b',o',p',q',A',n',K',zs,hA',-,-,htt,f0,f1,f2,sz⟩:=(st.nw k112).tableZ (k:=l) (by omega)
    have hcc:=hc _ (List.mem_of_getElem? htt)
    have hzl:=sz.len
    simp only at hcc
    refine⟨_,_,_,aa b12 rfl,_,_,_,aa g112 rfl,l,rfl,b',o',hA',by omega,_,_,_,_,_,aG f0 f1 f2,Ez sz (by omega) λA20 K20 h13 s13 k13'=>⟨_,_,_,_,_,rfl,aa (k13'.bk (by omega) b12) rfl,o3.spot,λh14 e14=>?_⟩⟩
    obtain⟨k14',g14',z14⟩:=aj e14
    have z13:=k13'.next
    have hz:Sz dM (λz=>h12.next<=z/\z<h14.next) h14 (some ⟨h13.next,0,none⟩) 1 2 [(p',q',zs)]:=Sz.one g14' ⟨by omega,by omega⟩ (by omega) rfl ⟨A20,n',K20,rfl,(s13.nw k14').mono λz hz hlt=>⟨hz,hlt⟩⟩
    obtain⟨A21,K21,h15,y1,y2,y3,y4⟩:=fL (r:=dM) (bytes:=40) (by kernel_rfl) (o3.nw (k13'.trans k14')) hz (λb hb ho=>by have:=(hD b (o3.lt ho).1).2;omega) (by omega) (by omega)
    have z15:=y3.next
    have nO:¬af A3 h2.next:=λho=>by have:=(hD _ (o3.lt ho).1).1;omega
    obtain⟨h16,s16,b16,z16,o16⟩:=aA (v:=.slice A21 (l+1) K21) (y3.bk (by omega) nO ((k13'.trans k14').bk (by omega) b12)) (o:=2) (by simp) rfl
    have m16:Mt (λz=>z=h2.next) h15 h16:=⟨by omega,λz _ hn=>o16 z hn⟩
    refine⟨A21,l+1,K21,h15,y1,h16,s16,_,wrS (by omega),nt - (l+1),by omega,l+1,λz=>(D z\/(h12.next<=z/\z<h14.next)\/z=h14.next)/\z<h15.next,A21,K21,rfl,by omega,rfl,b16,?_,λz hz=>?_,((m12.nw (k13'.trans k14')).trans y3 λz hz hlt=>by have:=(hD z (o3.lt hz).1).1;omega).then m16⟩
    ·rw[List.take_add_one,htt]
     refine(y2.mono (D':=λz=>(D z\/(h12.next<=z/\z<h14.next)\/z=h14.next)/\z<h15.next) λz hz hlt=>⟨hz,hlt⟩).off m16 λz hz _ e=>?_
     rcases hz.1 with h9 | h9 | h9
     ·have:=(hD z h9).1;omega
     ·omega
     ·omega
    ·rcases hz.1 with h9 | h9 | h9
     ·have:=hD z h9;omega
     ·omega
     ·omega
   ·obtain rfl:l=nt:=by omega
    rw[List.take_of_length_le (by omega)]at o3
    obtain⟨h17,s17,b17,z17,o17⟩:=bI (vs:=[.slice A1 i K1,.slice A2 j K2,.slice A3 l K3]) g212 rfl (by simp[flat])
    have m17:Mt (λz=>z=h1.next) h12 h17:=⟨by omega,λz _ hn=>o17 z hn⟩
    refine⟨_,_,_,_,_,_,_,_,_,aG (aa b12 rfl) (aa b12 rfl) (aa b12 rfl),h17,s17,_,_,_,_,_,_,_,_,_,aG (aa b17 rfl) (aa b17 rfl) (aa b17 rfl),hK _ _ _ _ _ _ h17 ?_ ?_ ?_ (m17.is_nw k112 λz hz=>by omega)⟩
    ·exact((((o1.sa.off m8 λz hz e=>by have:=lo1 z hz;omega).off m12 λz hz e=>by have:=lo1 z hz;omega).off m17 λz hz e=>by have:=lo1 z hz;omega)).mono λz hz _=>by have:=lo1 z hz;omega
    ·exact((o2.sa.off m12 λz hz e=>by have:=lo2 z hz;omega).off m17 λz hz e=>by have:=lo2 z hz;omega).mono λz hz _=>by have:=lo2 z hz;omega
    ·exact(o3.sa.off m17 λz hz e=>by have:=(hD z hz).1;omega).mono λz hz _=>by have:=(hD z hz).1;omega
theorem DY (hs0:Sz (Rc.sliceZ cI) F h A n K p) (hn:n<=10000) (hc:∀x∈p,x.length<=10000) (hK:∀A' K' h',Sa aY (λz=>h.next<=z) h' A' n K' p->Nw h h'->Q (.agg #[.slice A' n K']) h'):WC Tryz.prog 143 [.agg #[.slice A n K]] h Q:=by
 have hs:Sz (Rc.sliceZ cI) (λz=>z<h.next) h A n K p:=hs0.mono λz _ hz=>hz
 have ln:=hs.len
 refine vi λh1 e1 h2 e2 h3 e3=>?_
 obtain⟨k1,g1,z1⟩:=aj e1
 obtain⟨k2,g2,z2⟩:=aj e2
 obtain⟨k3,g3,z3⟩:=aj e3
 have k13:=(k1.trans k2).trans k3
 refine⟨λm x h12=>∃(l:Nat) (D:Nat->Prop) (A3:Option Addr) (K3:Nat),x=l/\l<=n/\m=n - l/\Bk h12 h2.next [.slice A3 l K3] 103/\al aY h12 D 31 A3 l K3 (p.take l)/\(∀z,D z->h3.next<=z/\z<h12.next)/\Mt (λz=>z=h2.next) h3 h12,n,⟨0,λ_=>False,none,0,rfl,Nat.zero_le _,rfl,g3,al.nil _ _ _ _,λz hz=>hz.elim,Mt.refl _ _⟩,?_⟩
 rintro m3 x h12 ⟨l,D,A3,K3,rfl,hl,hm3,b12,o3,hD,m12⟩
 have z12:=m12.next
 have k112:Nw h h12:=m12.is_nw k13 λz hz=>by omega
 have g112:=m12.bk (by omega) (by omega) ((k2.trans k3).bk (by omega) g1)
 have g212:=m12.bk (by omega) (by omega) (k3.bk (by omega) g2)
 refine⟨_,_,_,aa g112 rfl,λhlt=>?_,λhge3=>?_⟩
 ·refine⟨_,_,_,aa b12 rfl,λh5 e5=>?_⟩
  obtain⟨k5,g5,z5⟩:=aj e5
  obtain⟨b',o',A',n',K',zs,hA',-,hb',htt,f0,sz⟩:=(hs.nw k112).rowZ (k:=l) (by omega)
  have hcc:=hc _ (List.mem_of_getElem? htt)
  have hzl:=sz.len
  obtain⟨A6,K6,h6,x1,x2,x3,x4⟩:=nX (r:=cI) (bytes:=8) (t:=3) dX (by kernel_rfl) sz (by omega) (by omega) k5 g5 (by omega) (by omega)
  have z6:=x3.next
  have b6:=x3.bk (by omega) (by omega) (k5.bk (by omega) b12)
  refine⟨_,_,_,aa (k5.bk (by omega) g112) rfl,l,rfl,b',o',hA',by omega,A',n',K',(k5.ldC hb' _).trans f0,A6,n',K6,h6,x1,aa b6 rfl,o3.spot,λh7 e7=>?_⟩
  obtain⟨k7,g7,z7⟩:=aj e7
  have hz:Sz aY (λz=>h12.next<=z/\z<h7.next) h7 (some ⟨h6.next,0,none⟩) 1 2 [zs]:=Sz.one g7 ⟨by omega,by omega⟩ (by omega) rfl ⟨A6,n',K6,rfl,(x2.nw k7).sa.mono λz hz hlt=>⟨by rcases x4 z hz with h | h <;>omega,hlt⟩⟩
  have o3':=((o3.nw k5).off x3 λz hz _ e=>by have:=(hD z hz).2;omega).nw k7
  obtain⟨A21,K21,h15,y1,y2,y3,y4⟩:=fL (r:=aY) (bytes:=24) (by kernel_rfl) o3' hz (λb hb ho=>by have:=(hD b (o3.lt ho).1).2;omega) (by omega) (by omega)
  have z15:=y3.next
  have nO:¬af A3 h2.next:=λho=>by have:=(hD _ (o3.lt ho).1).1;omega
  obtain⟨h16,s16,b16,z16,o16⟩:=aA (v:=.slice A21 (l+1) K21) (y3.bk (by omega) nO (k7.bk (by omega) b6)) (o:=0) (by simp) rfl
  have m16:Mt (λz=>z=h2.next) h15 h16:=⟨by omega,λz _ hn=>o16 z hn⟩
  refine⟨A21,l+1,K21,h15,y1,h16,s16,_,wrS (by omega),n - (l+1),by omega,l+1,λz=>(D z\/(h12.next<=z/\z<h7.next)\/z=h7.next)/\z<h15.next,A21,K21,rfl,by omega,rfl,b16,?_,λz hz=>?_,(((m12.nw k5).trans x3 λz hz hlt=>by omega).nw k7 |>.trans y3 λz hz hlt=>by have:=(hD z (o3.lt hz).1).1;omega).then m16⟩
  ·rw[List.take_add_one,htt]
   refine(y2.mono (D':=λz=>(D z\/(h12.next<=z/\z<h7.next)\/z=h7.next)/\z<h15.next) λz hz hlt=>⟨hz,hlt⟩).off m16 λz hz _ e=>?_
   rcases hz.1 with h9 | h9 | h9
   ·have:=(hD z h9).1;omega
   ·omega
   ·omega
  ·rcases hz.1 with h9 | h9 | h9
   ·have:=hD z h9;omega
   ·omega
   ·omega
 ·obtain rfl:l=n:=by omega
  rw[List.take_of_length_le (by omega)]at o3
  obtain⟨h17,s17,b17,z17,o17⟩:=bI (vs:=[.slice A3 l K3]) g212 rfl (by simp[flat])
  have m17:Mt (λz=>z=h1.next) h12 h17:=⟨by omega,λz _ hn=>o17 z hn⟩
  exact⟨_,_,_,dL (aa b12 rfl),h17,s17,_,_,_,dL (aa b17 rfl),hK _ _ h17 ((o3.sa.off m17 λz hz e=>by have:=(hD z hz).1;omega).mono λz hz _=>by have:=(hD z hz).1;omega) (m17.is_nw k112 λz hz=>by omega)⟩
end
end Eva
end
section
open Go Go.RowKit
namespace Eva
def Rc.at_:Rc (ByteArray×Int) where
 size:=2
 rel:=λ_ _ cs x=>cs = [.string x.1,.int .i64 x.2]
 len:=λh=>by rw[h];rfl
 flat:=λh u hu=>by rw[h]at hu;simp at hu;rcases hu with rfl | rfl <;>rfl
 keep:=λ_ _ h=>h
 mono:=λ_ h=>h
theorem Br:nQ Rc.at_:=λh=>h
section
variable {h h':AH}{F:Nat->Prop}{Q:Value->AH->Prop}{A:Option Addr}{n K:Nat}{xs:List Int}
theorem rt {b:Nat}{u v:Value}{t:TypeId}{e:Int}(hb:Bk h b [u,v] t) (hQ:∀h',Mt (λz=>z=b) h h'->Q (.agg #[.slice A n K,.int .i64 e]) h') :
  ∃h',stC h b 0 [.slice A n K,.int .i64 e]=some h'/\∃(A':Option Addr) (n':Nat) (K':Nat) (e':Int),ldN h' b 0 2=some [.slice A' n' K',.int .i64 e']/\Q (.agg #[.slice A' n' K',.int .i64 e']) h':=by
 obtain⟨h2,s2,b2,z2,o2⟩:=bI (vs:=[.slice A n K,.int .i64 e]) hb rfl (by simp[flat])
 exact⟨h2,s2,A,n,K,e,pc (aa b2 rfl) (aa b2 rfl),hQ h2 ⟨by omega,λz _ hn=>o2 z hn⟩⟩
theorem aAt {s:ByteArray}{x e:Int}(hK:∀A' h',Sz Rc.at_ (λz=>h.next<=z) h' A' 1 2 [(s,x)]->Nw h h'->Q (.agg #[.slice A' 1 2,.int .i64 e]) h'):WC Tryz.prog 69 [.string s,.int .i64 x,.int .i64 e] h Q:=by
 refine xU λh1 e1 h2 e2=>?_
 obtain⟨k1,g1,z1⟩:=aj e1
 obtain⟨k2,g2,z2⟩:=aj e2
 refine rt (k2.bk (by omega) g1) λh3 m3=>hK _ h3 ?_ (m3.is_nw (k1.trans k2) λz hz=>by omega)
 exact Sz.one (r:=Rc.at_) (m3.bk (by omega) (by omega) g2) (by omega) (by have:=m3.next;omega) rfl rfl
theorem gq {c:Int}(hK:Q (.bool (aL c)) h):WC Tryz.prog 138 [.int .i64 c] h Q:=by
 refine pf ⟨λh1=>⟨λh2=>?_,λh2=>⟨λh3=>?_,λh3=>?_⟩⟩,λh1=>⟨λh3=>?_,λh3=>?_⟩⟩
 all_goals first
  | rwa [show aL c=true from decide_eq_true (by omega)]at hK
  | rwa [show aL c=false from decide_eq_false (by omega)]at hK
theorem pZ {c:Int}(hK:Q (.bool (ge c)) h):WC Tryz.prog 137 [.int .i64 c] h Q:=by
 refine rK ⟨λh1=>⟨λh2=>?_,λh2=>?_⟩,λh1=>?_⟩
 all_goals first
  | rwa [show ge c=true from decide_eq_true (by omega)]at hK
  | rwa [show ge c=false from decide_eq_false (by omega)]at hK
theorem xJ {p q:Int}(hs0:Sz cI F h A n K xs) (hn:n<=10000) (hK:∀A' n' K' e h',Nw h h'->(e=0->cg p q xs)->(e≠0->∃G w,n' = 1/\Sz Rc.at_ G h' A' 1 K' [w])->Q (.agg #[.slice A' n' K',.int .i64 e]) h') :
  WC Tryz.prog 135 [.agg #[.int .i64 p,.int .i64 q,.slice A n K]] h Q:=by
 have hs:Sz cI (λz=>z<h.next) h A n K xs:=hs0.mono λz _ hz=>hz
 have ln:=hs.len
 refine kq λh1 e1 h2 e2=>?_
 obtain⟨k1,g1,z1⟩:=aj e1
 obtain⟨k2,g2,z2⟩:=aj e2
 have k12:=k1.trans k2
 have g12:=k2.bk (by omega) g1
 have err:∀{h3}{s:ByteArray}{x e:Int},Nw h2 h3->e≠0->WC Tryz.prog 69 [.string s,.int .i64 x,.int .i64 e] h3 (λv1 h3=>∃(A2:Option Addr) (n2:Nat) (K2:Nat) (x4:Int),v1 = .agg #[.slice A2 n2 K2,.int .i64 x4]/\∃h4:AH,stC h3 h1.next 0 [.slice A2 n2 K2,.int .i64 x4]=some h4/\∃(A3:Option Addr) (n3:Nat) (K3:Nat) (x5:Int),ldN h4 h1.next 0 2=some [.slice A3 n3 K3,.int .i64 x5]/\Q (.agg #[.slice A3 n3 K3,.int .i64 x5]) h4):=fun {h3 s x e} k3 he=>
  aAt λA' h' s' k'=>⟨_,_,_,_,rfl,rt ((k3.trans k').bk (by omega) g2) λh4 m4=>hK _ _ _ _ h4 (m4.is_nw ((k12.trans k3).trans k') λz hz=>by omega) (λh=>absurd h he) λ_=>⟨_,_,rfl,s'.off m4 λz hz e=>by have:=k3.next;omega⟩⟩
 refine⟨p,aa g12 rfl,λ_=>err (Nw.refl _) (by decide),λp0=>⟨p,aa g12 rfl,λ_=>err (Nw.refl _) (by decide),λp1=>⟨q,aa g12 rfl,λ_=>err (Nw.refl _) (by decide),λq0=>⟨q,aa g12 rfl,λ_=>err (Nw.refl _) (by decide),λq1=>?_⟩⟩⟩⟩
 have hm:0<=p*q/\p*q<=16*16:=⟨Int.mul_nonneg (by omega) (by omega),Int.mul_le_mul (by omega) (by omega) (by omega) (by omega)⟩
 refine⟨_,_,_,aa g12 rfl,p,aa g12 rfl,q,aa g12 rfl,_,ah (by omega) (by omega),λheq=>?_,λ_=>err (Nw.refl _) (by decide)⟩
 refine⟨λm x h3=>∃i:Nat,x=i/\i<=n/\m=n - i/\Nw h2 h3/\∀c∈xs.take i,aL c=true,n,⟨0,rfl,Nat.zero_le _,rfl,Nw.refl _,by simp⟩,?_⟩
 rintro m x h3 ⟨i,rfl,hi,hmi,k3,hw⟩
 refine⟨_,_,_,aa (k3.bk (by omega) g12) rfl,λhlt=>?_,λhge=>?_⟩
 ·obtain⟨b',o,y,hA,-,-,hy,e0⟩:=(hs.nw (k12.trans k3)).int (k:=i) (by omega)
  refine⟨_,_,_,aa (k3.bk (by omega) g12) rfl,i,rfl,b',o,hA,by omega,_,e0,gq ⟨_,rfl,λht=>⟨_,wrS (by omega),n - (i+1),by omega,i+1,rfl,by omega,rfl,k3,λc hc=>?_⟩,λ_=>⟨_,ah (by omega) (by omega),err k3 (by decide)⟩⟩⟩
  rw[List.take_add_one,hy,List.mem_append]at hc
  rcases hc with hc | hc
  ·exact hw c hc
  ·simp at hc;subst hc;exact ht
 ·obtain rfl:i=n:=by omega
  rw[List.take_of_length_le (by omega)]at hw
  exact rt (k3.bk (by omega) g2) λh4 m4=>hK _ _ _ _ h4 (m4.is_nw (k12.trans k3) λz hz=>by omega) (λ_=>⟨by omega,by omega,by omega,hw⟩) (λh=>absurd rfl h)
theorem Bt {s:ByteArray}{x e:Int}{G:Nat->Prop}{w:ByteArray×Int}(hs:Sz Rc.at_ G h A 1 K [w]) (he:e≠0) (hK:∀A' n' K' h',Nw h h'->Q (.agg #[.slice A' n' K',.int .i64 e]) h') :
  WC Tryz.prog 136 [.string s,.int .i64 x,.agg #[.slice A 1 K,.int .i64 e]] h Q:=by
 refine pe λh1 e1 h2 e2=>?_
 obtain⟨k1,g1,z1⟩:=aj e1
 obtain⟨k2,g2,z2⟩:=aj e2
 refine⟨e,aa (k2.bk (by omega) g1) rfl,λh=>absurd h he,λ_ h4 e4=>?_⟩
 obtain⟨k4,g4,z4⟩:=aj e4
 have k14:=(k1.trans k2).trans k4
 have g14:=(k2.trans k4).bk (by omega) g1
 have hB:al Rc.at_ h4 (af (some ⟨h2.next,0,none⟩)) 261 (some ⟨h2.next,0,none⟩) 1 (2*1) [(s,x)]:=al.lit (r:=Rc.at_) g4 rfl (by omega) rfl rfl (by simp[flat]) λk y hy=>by
  match k,hy with
  | 0,hy=>obtain rfl:=Option.some.inj hy;rfl
 obtain⟨A',K',h5,y1,y2,y3,y4⟩:=aX (bytes:=24) Br (by kernel_rfl) hB (hs.nw k14) (by omega) (by omega)
 have no:∀z,z≠h2.next->¬af (some ⟨h2.next,0,none⟩) z:=λz hz h=>hz h
 refine⟨_,_,_,aa g14 rfl,e,aa g14 rfl,A',_,K',h5,y1,aa (y3.bk (by omega) (no _ (by omega)) g14) rfl,rt (y3.bk (by omega) (no _ (by omega)) ((k4.bk (by omega) g2))) λh6 m6=>hK _ _ _ h6 ?_⟩
 exact m6.is_nw (y3.is_nw k14 λz hz=>by have:z=h2.next:=hz;omega) λz hz=>by omega
end
end Eva
end
section
open Go Go.RowKit
namespace Eva
structure cz (h:AH) (F:Nat->Prop) (Av:Option Addr) (nv Kv:Nat) (Aa:Option Addr) (na Ka:Nat) (At:Option Addr) (nt Kt:Nat) (N:ab):Prop where
 vs:Sz aJ F h Av nv Kv N.vs
 xa:Sz aJ F h Aa na Ka N.xa
 ts:Sz Rc.tableZ F h At nt Kt N.ts
section
variable {h h':AH}{F:Nat->Prop}{Q:Value->AH->Prop}{Av Aa At:Option Addr}{nv Kv na Ka nt Kt:Nat}{N:ab}
theorem cz.nw (Z:cz h F Av nv Kv Aa na Ka At nt Kt N) (a:Nw h h'):cz h' F Av nv Kv Aa na Ka At nt Kt N:=⟨Z.vs.nw a,Z.xa.nw a,Z.ts.nw a⟩
theorem cz.old (Z:cz h F Av nv Kv Aa na Ka At nt Kt N):cz h (λz=>z<h.next) Av nv Kv Aa na Ka At nt Kt N:=⟨Z.vs.mono λz _ hz=>hz,Z.xa.mono λz _ hz=>hz,Z.ts.mono λz _ hz=>hz⟩
theorem cz.off (Z:cz h F Av nv Kv Aa na Ka At nt Kt N){S:Nat->Prop}(a:Mt S h h') (hS:∀z,F z->¬S z):cz h' F Av nv Kv Aa na Ka At nt Kt N:=⟨Z.vs.off a hS,Z.xa.off a hS,Z.ts.off a hS⟩
theorem Bu (Z0:cz h F Av nv Kv Aa na Ka At nt Kt N) (hc:∀t∈N.ts,t.2.2.length<=10000) (hK:∀A' n' K' e h',Nw h h'->(e=0->N.Ok)->Q (.agg #[.slice A' n' K',.int .i64 e]) h') :
  WC Tryz.prog 66 [.agg #[.slice Av nv Kv,.slice Aa na Ka,.slice At nt Kt]] h Q:=by
 have Z:=Z0.old
 have lv:=Z.vs.len
 have la:=Z.xa.len
 have lt:=Z.ts.len
 refine lS λh1 e1 h2 e2=>?_
 obtain⟨k1,g1,z1⟩:=aj e1
 obtain⟨k2,g2,z2⟩:=aj e2
 have k12:=k1.trans k2
 have g12:=k2.bk (by omega) g1
 have errB:∀{h3}{s:ByteArray}{x e:Int},Nw h h3->Bk h3 h1.next [.slice none 0 0,.int .i64 0] 90->h1.next<h3.next->e≠0->WC Tryz.prog 69 [.string s,.int .i64 x,.int .i64 e] h3 (λv1 h3=>∃(A2:Option Addr) (n2:Nat) (K2:Nat) (x4:Int),v1 = .agg #[.slice A2 n2 K2,.int .i64 x4]/\∃h4:AH,stC h3 h1.next 0 [.slice A2 n2 K2,.int .i64 x4]=some h4/\∃(A3:Option Addr) (n3:Nat) (K3:Nat) (x5:Int),ldN h4 h1.next 0 2=some [.slice A3 n3 K3,.int .i64 x5]/\Q (.agg #[.slice A3 n3 K3,.int .i64 x5]) h4):=fun {h3 s x e} k3 b3 l3 he=>
  aAt λA' h' s' k'=>⟨_,_,_,_,rfl,rt (k'.bk l3 b3) λh4 m4=>hK _ _ _ _ h4 (m4.is_nw (k3.trans k') λz hz=>by omega) (λh=>absurd h he)⟩
 have err:∀{h3}{s:ByteArray}{x e:Int},Nw h2 h3->e≠0->WC Tryz.prog 69 [.string s,.int .i64 x,.int .i64 e] h3 (λv1 h3=>∃(A2:Option Addr) (n2:Nat) (K2:Nat) (x4:Int),v1 = .agg #[.slice A2 n2 K2,.int .i64 x4]/\∃h4:AH,stC h3 h1.next 0 [.slice A2 n2 K2,.int .i64 x4]=some h4/\∃(A3:Option Addr) (n3:Nat) (K3:Nat) (x5:Int),ldN h4 h1.next 0 2=some [.slice A3 n3 K3,.int .i64 x5]/\Q (.agg #[.slice A3 n3 K3,.int .i64 x5]) h4):=fun {h3 s x e} k3 he=>errB (k12.trans k3) (k3.bk (by omega) g2) (by have:=k3.next;omega) he
 refine⟨_,_,_,aa g12 rfl,λ_=>err (Nw.refl _) (by decide),λn0=>⟨_,_,_,aa g12 rfl,λ_=>err (Nw.refl _) (by decide),λn1=>⟨_,_,_,aa g12 rfl,λ_=>err (Nw.refl _) (by decide),λn2=>?_⟩⟩⟩
 refine⟨λm x h9=>∃i:Nat,x=i/\i<=nt/\m=nt - i/\Nw h2 h9/\∀t∈N.ts.take i,cg t.1 t.2.1 t.2.2,nt,⟨0,rfl,Nat.zero_le _,rfl,Nw.refl _,by simp⟩,?_⟩
 rintro m x h9 ⟨i,rfl,hi,hm,k9,ht9⟩
 refine⟨_,_,_,aa (k9.bk (by omega) g12) rfl,λhlt=>?_,λhge=>?_⟩
 ·obtain⟨b',o',p,q,A',n',K',zs,hA',-,-,htt,f0,f1,f2,sz⟩:=(Z.nw (k12.trans k9)).ts.tableZ (k:=i) (by omega)
  have hcc:=hc _ (List.mem_of_getElem? htt)
  have hzl:=sz.len
  simp only at hcc
  refine⟨_,_,_,aa (k9.bk (by omega) g12) rfl,i,rfl,b',o',hA',by omega,_,_,_,_,_,aG f0 f1 f2,xJ sz (by omega) λA16 n16 K16 e h10 k10 hok hbad=>⟨_,_,_,_,rfl,λh11 e11=>?_⟩⟩
  obtain⟨h12,s12,k12',g12',z12⟩:=ay (vs:=[.slice A16 n16 K16,.int .i64 e]) e11 rfl (by simp[flat])
  have kk:=(k9.trans k10).trans k12'
  refine⟨h12,s12,e,aa g12' rfl,λhe=>⟨_,wrS (by omega),nt - (i+1),by omega,i+1,rfl,by omega,rfl,kk,λt hm'=>?_⟩,λhe=>?_⟩
  ·rw[List.take_add_one,htt,List.mem_append]at hm'
   rcases hm' with hm' | hm'
   ·exact ht9 t hm'
   ·simp at hm';subst hm';exact hok he
  ·obtain⟨G,w,hn16,sw⟩:=hbad he
   subst hn16
   refine⟨_,_,_,_,pc (aa g12' rfl) (aa g12' rfl),Bt (sw.nw k12') he λA18 n18 K18 h13 k13=>⟨_,_,_,_,rfl,rt ((kk.trans k13).bk (by omega) g2) λh14 m14=>hK _ _ _ _ h14 (m14.is_nw ((k12.trans kk).trans k13) λz hz=>by omega) (λh=>absurd h he)⟩⟩
 ·obtain rfl:i=nt:=by omega
  rw[List.take_of_length_le (by omega)]at ht9
  refine⟨λm x h15=>∃j:Nat,x=j/\j<=nv/\m=nv - j/\Nw h2 h15/\∀v∈N.vs.take j,ge v.1=true/\ge v.2.1=true/\0<=v.2.2/\v.2.2<N.ts.length,nv,⟨0,rfl,Nat.zero_le _,rfl,k9,by simp⟩,?_⟩
  rintro m' x h15 ⟨j,rfl,hj,hm',k15,hv15⟩
  have z15:=k15.next
  refine⟨_,_,_,aa (k15.bk (by omega) g12) rfl,λhlt=>?_,λhge'=>?_⟩
  ·obtain⟨b,o,x,y,z,hA,-,-,hx,e0,e1',e2'⟩:=(Z.nw (k12.trans k15)).vs.tri (k:=j) (by omega)
   refine⟨_,_,_,aa (k15.bk (by omega) g12) rfl,j,rfl,b,o,hA,by omega,_,_,_,aG e0 e1' e2',λh16 e16=>?_⟩
   obtain⟨h17,s17,k17,g17,z17⟩:=ay (vs:=[.int .i64 x,.int .i64 y,.int .i64 z]) e16 rfl (by simp[flat])
   have kk:=k15.trans k17
   refine⟨h17,s17,x,aa g17 rfl,pZ ⟨_,rfl,λc1=>⟨y,aa g17 rfl,pZ ⟨_,rfl,λc2=>⟨z,aa g17 rfl,λ_=>err kk (by decide),λc3=>⟨z,aa g17 rfl,_,_,_,aa (kk.bk (by omega) g12) rfl,λ_=>err kk (by decide),λc4=>⟨_,wrS (by omega),nv - (j+1),by omega,j+1,rfl,by omega,rfl,kk,λv hv=>?_⟩⟩⟩,λ_=>err kk (by decide)⟩⟩,λ_=>err kk (by decide)⟩⟩
   rw[List.take_add_one,hx,List.mem_append]at hv
   rcases hv with hv | hv
   ·exact hv15 v hv
   ·simp at hv;subst hv;exact⟨c1,c2,by simp only;omega,by simp only;omega⟩
  ·obtain rfl:j=nv:=by omega
   rw[List.take_of_length_le (by omega)]at hv15
   refine⟨_,_,_,aa (k15.bk (by omega) g12) rfl,by omega,λh28 e28=>?_⟩
   obtain⟨k28,g28,z28⟩:=aj e28
   refine⟨_,_,_,aa ((k15.trans k28).bk (by omega) g12) rfl,by omega,λh29 e29=>?_⟩
   obtain⟨k29,g29,z29⟩:=aj e29
   rw[a9]at g28 g29
   have k229:=(k15.trans k28).trans k29
   have z229:=k229.next
   refine⟨λm x h30=>∃l:Nat,x=l/\l<=na/\m=na - l/\Bk h30 h15.next ((kR de N.xa j l).map (Value.int .i64)) 3/\Bk h30 h28.next ((kR gH N.xa j l).map (Value.int .i64)) 3/\Mt (λz=>z=h15.next\/z=h28.next) h29 h30/\∀a∈N.xa.take l,(0<=a.1/\a.1<N.vs.length)/\(0<=a.2.1/\a.2.1<N.vs.length)/\aL a.2.2=true,na,⟨0,rfl,Nat.zero_le _,rfl,by rw[iw,List.map_replicate];exact k29.bk (by omega) g28,by rw[iw,List.map_replicate];exact g29,Mt.refl _ _,by simp⟩,?_⟩
   rintro m3 x h30 ⟨l,rfl,hl,hm3,b30,c30,m30,ha30⟩
   have z30:=m30.next
   have k030:Nw h h30:=m30.is_nw (k12.trans k229) λz hz=>by omega
   have g30:Bk h30 h.next [.slice Av j Kv,.slice Aa na Ka,.slice At i Kt] 26:=m30.bk (by omega) (by omega) (k229.bk (by omega) g12)
   have r30:Bk h30 h1.next [.slice none 0 0,.int .i64 0] 90:=m30.bk (by omega) (by omega) (k229.bk (by omega) g2)
   refine⟨_,_,_,aa g30 rfl,λhlt=>?_,λhge3=>?_⟩
   ·obtain⟨b,o,x,y,z,hA,-,-,hx,e0,e1',e2'⟩:=(Z.nw k030).xa.tri (k:=l) (by omega)
    refine⟨_,_,_,aa g30 rfl,l,rfl,b,o,hA,by omega,_,_,_,aG e0 e1' e2',λh31 e31=>?_⟩
    obtain⟨h32,s32,k32,g32,z32⟩:=ay (vs:=[.int .i64 x,.int .i64 y,.int .i64 z]) e31 rfl (by simp[flat])
    have er:∀{s:ByteArray}{x e:Int},e≠0->_:=fun {s x e} he=>errB (s:=s) (x:=x) (k030.trans k32) (k32.bk (by omega) r30) (by omega) he
    have G32:=k32.bk (by omega) g30
    refine⟨h32,s32,x,aa g32 rfl,λ_=>er (by decide),λx0=>⟨x,aa g32 rfl,_,_,_,aa G32 rfl,λ_=>er (by decide),λx1=>⟨y,aa g32 rfl,λ_=>er (by decide),λy0=>⟨y,aa g32 rfl,_,_,_,aa G32 rfl,λ_=>er (by decide),λy1=>⟨z,aa g32 rfl,gq ⟨_,rfl,λhw=>?_,λ_=>er (by decide)⟩⟩⟩⟩⟩⟩
    obtain⟨u,rfl⟩:=Int.eq_ofNat_of_zero_le (show 0<=x by omega)
    obtain⟨v,rfl⟩:=Int.eq_ofNat_of_zero_le (show 0<=y by omega)
    have hu:u<j:=by omega
    have hv:v<j:=by omega
    have c1:=ra de N.xa l v
    have c2:=ra gH N.xa l u
    have B32:=k32.bk (by omega) b30
    have C32:=k32.bk (by omega) c30
    obtain⟨h42,s42,b42,z42,o42⟩:=aA (v:=.int .i64 (((N.xa.take l).countP (λa=>gH a == (u:Int)):Int)+1)) C32 (o:=0+u) (by simp[jV];omega) rfl
    have B42:=(o42 _ (by omega)).trans B32
    have g42:=(o42 _ (by omega)).trans g32
    obtain⟨h43,s43,b43,z43,o43⟩:=aA (v:=.int .i64 (((N.xa.take l).countP (λa=>de a == (v:Int)):Int)+1)) B42 (o:=0+v) (by simp[jV];omega) rfl
    refine⟨(u:Int),aa g32 rfl,u,rfl,hu,(((N.xa.take l).countP (λa=>gH a == (u:Int)):Nat):Int),?_,_,ah (by omega) (by omega),hu,h42,s42,_,aa g42 rfl,v,rfl,hv,(((N.xa.take l).countP (λa=>de a == (v:Int)):Nat):Int),?_,_,ah (by omega) (by omega),hv,h43,s43,_,wrS (by omega),na - (l+1),by omega,l+1,rfl,by omega,rfl,?_,?_,?_,λa ha=>?_⟩
    ·rw[aP C32,Nat.zero_add,List.getElem?_map,dD hu];rfl
    ·rw[aP B42,Nat.zero_add,List.getElem?_map,dD hv];rfl
    ·rw[iy (f:=de) hx rfl hv,List.map_set]
     rw[Nat.zero_add]at b43
     exact b43
    ·rw[iy (f:=gH) hx rfl hu,List.map_set]
     rw[Nat.zero_add]at b42
     exact(o43 _ (by omega)).trans b42
    ·exact⟨by omega,λz hz hn=>(o43 z (λe=>hn (.inl e))).trans ((o42 z (λe=>hn (.inr e))).trans ((k32.get z (by omega)).trans (m30.get z hz hn)))⟩
    ·rw[List.take_add_one,hx,List.mem_append]at ha
     rcases ha with ha | ha
     ·exact ha30 a ha
     ·simp at ha;subst ha;exact⟨⟨by simp only;omega,by simp only;omega⟩,⟨by simp only;omega,by simp only;omega⟩,hw⟩
   ·obtain rfl:l=na:=by omega
    have hin:N.xa.take l=N.xa:=List.take_of_length_le (by omega)
    rw[hin]at ha30
    refine⟨λm x h46=>∃y:Nat,x=y/\y<=j/\m=j - y/\Nw h30 h46/\∀(q:Nat) v t,q<y->N.vs[q]? = some v->N.ts[v.2.2.toNat]? = some t->(N.xa.countP λa=>de a == (q:Int))<=16/\(N.xa.countP λa=>gH a == (q:Int))<=16/\t.1=(N.xa.countP λa=>de a == (q:Int):Nat)/\t.2.1=(N.xa.countP λa=>gH a == (q:Int):Nat),j,⟨0,rfl,Nat.zero_le _,rfl,Nw.refl _,λq v t h=>absurd h (by omega)⟩,?_⟩
    rintro m4 x h46 ⟨y,rfl,hy,hm4,k46,hd46⟩
    have z46:=k46.next
    have G46:=k46.bk (by omega) g30
    refine⟨_,_,_,aa G46 rfl,λhlt=>?_,λhge4=>?_⟩
    ·obtain⟨b,o,vx,vy,vz,hA,-,-,hx,e0,e1',e2'⟩:=(Z.nw (k030.trans k46)).vs.tri (k:=y) (by omega)
     obtain⟨-,-,t0,t1⟩:=hv15 _ (List.mem_of_getElem? hx)
     simp only at t0 t1
     obtain⟨ty,rfl⟩:=Int.eq_ofNat_of_zero_le t0
     obtain⟨b',o',p,q,A',n',K',zs,hA',-,-,htt,f0,f1,f2,sz⟩:=(Z.nw (k030.trans k46)).ts.tableZ (k:=ty) (by omega)
     refine⟨_,_,_,aa G46 rfl,_,_,_,aa G46 rfl,y,rfl,b,o,hA,by omega,_,e2',ty,rfl,b',o',hA',by omega,_,_,_,_,_,aG f0 f1 f2,λh47 e47=>?_⟩
     obtain⟨h48,s48,k48,g48,z48⟩:=ay (vs:=[.int .i64 p,.int .i64 q,.slice A' n' K']) e47 rfl (by simp[flat])
     have kk:=k46.trans k48
     have er:∀{s:ByteArray}{x e:Int},e≠0->_:=fun {s x e} he=>errB (s:=s) (x:=x) (k030.trans kk) (kk.bk (by omega) r30) (by omega) he
     have r1:ldC h48 h15.next (0+y)=some (.int .i64 ((N.xa.countP (λa=>de a == (y:Int)):Nat):Int)):=by
      rw[aP (kk.bk (by omega) b30),Nat.zero_add,List.getElem?_map,dD (by omega),hin];rfl
     have r2:ldC h48 h28.next (0+y)=some (.int .i64 ((N.xa.countP (λa=>gH a == (y:Int)):Nat):Int)):=by
      rw[aP (kk.bk (by omega) c30),Nat.zero_add,List.getElem?_map,dD (by omega),hin];rfl
     refine⟨h48,s48,by omega,_,r1,λ_=>er (by decide),λd1=>⟨by omega,_,r2,λ_=>er (by decide),λd2=>⟨by omega,_,r1,p,aa g48 rfl,λd3=>⟨by omega,_,r2,q,aa g48 rfl,λd4=>⟨_,wrS (by omega),j - (y+1),by omega,y+1,rfl,by omega,rfl,kk,λq' v t hq hv ht=>?_⟩,λ_=>er (by decide)⟩,λ_=>er (by decide)⟩⟩⟩
     by_cases e:q' = y
     ·subst e
      rw[hx]at hv
      obtain rfl:=Option.some.inj hv
      simp only[Int.toNat_natCast]at ht
      rw[htt]at ht
      obtain rfl:=Option.some.inj ht
      exact⟨by omega,by omega,d3.symm,d4.symm⟩
     ·exact hd46 q' v t (by omega) hv ht
    ·obtain rfl:y=j:=by omega
     exact rt (k46.bk (by omega) r30) λh57 m57=>hK _ _ _ _ h57 (m57.is_nw (k030.trans k46) λz hz=>by omega) λ_=>⟨by omega,by omega,by omega,ht9,hv15,ha30,λq v t hv ht=>hd46 q v t (by have:=(List.getElem?_eq_some_iff.1 hv).1;omega) hv ht⟩
end
end Eva
end
section
open Go Go.RowKit
structure UpA (low row:List Int) (k:Nat) (up:List Int):Prop where
 here:∀(v:Nat) (x y:Int),v<k->low[v]? = some x->row[v]? = some y->up[x.toNat]? = some y
 from_:∀(c:Nat) (u:Int),up[c]? = some u->u = -1\/∃v,v<k/\low[v]? = some (c:Int)/\row[v]? = some u
theorem UpA.next {low row up:List Int}{k c:Nat}{u r:Int}(h:UpA low row k up) (hl:low[k]? = some (c:Int)) (hr:row[k]? = some r) (hu:up[c]? = some u) (hok:u<0\/u=r) (hrow:∀x∈row,0<=x):UpA low row (k+1) (up.set c r):=by
 have hcl:=(List.getElem?_eq_some_iff.1 hu).1
 refine⟨λv x y hv h1 h2=>?_,λc' u' h1=>?_⟩
 ·by_cases hvk:v=k
  ·subst hvk
   rw[hl]at h1
   rw[hr]at h2
   obtain rfl:=Option.some.inj h1
   obtain rfl:=Option.some.inj h2
   rw[Int.toNat_natCast,List.getElem?_set_self hcl]
  ·have h3:=h.here v x y (by omega) h1 h2
   by_cases hx:x.toNat=c
   ·rw[hx]at h3⊢
    rw[hu]at h3
    have h3:=Option.some.inj h3
    have h4:=hrow y (List.mem_of_getElem? h2)
    rw[List.getElem?_set_self hcl]
    congr 1
    omega
   ·rw[List.getElem?_set_ne (by omega)]
    exact h3
 ·by_cases hc:c' = c
  ·subst hc
   rw[List.getElem?_set_self hcl]at h1
   obtain rfl:=Option.some.inj h1
   exact .inr ⟨k,by omega,hl,hr⟩
  ·rw[List.getElem?_set_ne (by omega)]at h1
   rcases h.from_ c' u' h1 with h2 | ⟨v,h2,h3,h4⟩
   ·exact .inl h2
   ·exact .inr ⟨v,by omega,h3,h4⟩
namespace Eva
section
variable {h h':AH}{F G:Nat->Prop}{Q:Value->AH->Prop}{A B:Option Addr}{n m K L:Nat}{xs ys low row:List Int}
theorem Ck {g k:Nat}(hk:k<=n) (hn:0<n):∃K',aE Tryz.prog 3 (some ⟨g,0,none⟩) n (cx n) none (some k) none=some (.slice (some ⟨g,0,none⟩) k K'):=by
 obtain⟨i,hi,hsz,-⟩:=bi dK
 unfold aE
 rw[hi]
 have hc2:(cx n) / 2=n:=by unfold cx;omega
 have hp:Nat.beq ((cx n) % 2) 0=true:=by
  have:(cx n) % 2=0:=by unfold cx;omega
  rw[this];rfl
 have b1:Nat.ble k ((cx n) / 2)=true:=Nat.ble_eq_true_of_le (by omega)
 have b2:Nat.ble 0 k=true:=rfl
 show ∃K',cond (Option.isNone (none:Option Nat) || Option.isSome (some k)) (cw i.size (some ⟨g,0,none⟩) n (cx n) ((none:Option Nat).getD 0) (some k) none) none=some (.slice (some ⟨g,0,none⟩) k K')
 simp only[Option.isNone_none,Bool.true_or,cond_true,Option.getD_none]
 unfold cw
 simp only[Option.getD_some,b1,b2,Bool.and_self,cond_true,hp]
 unfold mi
 refine⟨cx (cx n / 2 - 0),?_⟩
 have:mh (some ⟨g,0,none⟩) (cx n / 2) 0 i.size=some ⟨g,0,none⟩:=by
  unfold mh
  rw[hc2]
  have:Nat.beq n 0=false:=by
   cases hb:Nat.beq n 0 with
   | false=>rfl
   | true=>have:=Nat.eq_of_beq_eq_true hb;omega
  simp[this,bj]
 rw[this,Nat.sub_zero]
theorem qa (v:Int) (hs:Sa cI F h A n K xs) (hn:n<=100000) (hv:v ∉ xs) (hK:Q (.bool false) h):WC Tryz.prog 308 [.slice A n K,.int .i64 v] h Q:=by
 refine eH (gd ⟨λm x h1=>∃i:Nat,x=i/\i<=n/\m=n - i/\h1=h,n,⟨0,rfl,Nat.zero_le _,rfl,rfl⟩,?_⟩)
 rintro m x h1 ⟨i,rfl,hi,hm,rfl⟩
 refine⟨λhlt=>?_,λhge=>⟨_,rfl,λh=>absurd h (by omega),λ_=>hK⟩⟩
 obtain⟨b,o,y,hA,-,-,hy,e0⟩:=hs.int (k:=i) (by omega)
 refine⟨i,rfl,b,o,hA,by omega,_,e0,λhe=>?_,λhe=>⟨_,(by rw[Int.natCast_succ];exact ah (by omega) (by omega):IntKind.i64.wrap ((i:Int)+1)=((i+1:Nat):Int)),n - (i+1),by omega,i+1,rfl,by omega,rfl,rfl⟩⟩
 subst he
 exact absurd (List.mem_of_getElem? hy) hv
theorem we (hs:Sa cI F h A n K xs) (hn:n<=100000) (hr:kW xs n) (hK:Q (.bool true) h):WC Tryz.prog 309 [.slice A n K] h Q:=by
 refine eI ⟨_,ah (by omega) (by omega),λm x h1=>∃i:Nat,x=(i:Int) - 1/\i<=n/\m=i/\h1=h,n,⟨n,rfl,Nat.le_refl _,rfl,rfl⟩,?_⟩
 rintro m x h1 ⟨i,rfl,hi,hm,rfl⟩
 refine⟨λhlt=>?_,λhge=>hK⟩
 obtain⟨b,o,y,hA,-,-,hy,e0⟩:=hs.int (k:=i - 1) (by omega)
 obtain⟨b',o',z,hA',-,-,hz,e0'⟩:=hs.int (k:=i - 2) (by omega)
 rw[hA]at hA'
 injection hA' with hA'
 injection hA' with hA1 hA2
 subst hA1 hA2
 have hle:=hr (i - 2) z y (by omega) hz (by rw[show i - 2+1=i - 1 by omega];exact hy)
 refine⟨i - 1,by omega,b,o,hA,by omega,_,e0,_,ah (by omega) (by omega),i - 2,by omega,by omega,_,e0',Cj _ _ ⟨_,rfl,λh=>absurd (of_decide_eq_true h) (by omega),λ_=>⟨_,ah (by omega) (by omega),i - 1,by omega,i - 1,by omega,by omega,rfl,rfl⟩⟩⟩
theorem C7 (hs:Sa cI F h A n K row) (hn:n<=4096) (h1:jW n row) (h2:dW row) (hK:∀A' n' K' h',Nw h h'->Q (.tuple #[.slice A' n' K',.bool true]) h'):WC Tryz.prog 258 [.slice A n K] h Q:=by
 have hl:=hs.len
 refine qS ⟨by omega,λh1' e1=>?_⟩
 obtain⟨k1,g1,z1⟩:=aj e1
 rw[a9]at g1
 refine⟨λm x y h2'=>∃i:Nat,y=i/\i<=n/\m=n - i/\x=aI (row.take i) - 1/\Bk h2' h.next ((tal (row.take i) n).map (Value.int .i64)) 3/\Nw h h2'/\h.next<h2'.next,n,⟨0,rfl,Nat.zero_le _,rfl,by simp[aI],by rw[List.take_zero,vR,List.map_replicate];exact g1,k1,by omega⟩,?_⟩
 rintro m x y h2' ⟨i,rfl,hi,hm,rfl,b2,k2,lt2⟩
 have hm0:=cD (row.take i)
 have hm1:aI (row.take i)<=n:=cP (by omega) λx hx=>(h1 x (List.mem_of_mem_take hx)).2
 refine⟨λhlt=>?_,λhge=>?_⟩
 ·obtain⟨b,o,v,hA,-,-,hv,e0⟩:=(hs.nw k2).int (k:=i) (by omega)
  obtain⟨v0,v1⟩:=h1 v (List.mem_of_getElem? hv)
  obtain⟨c,rfl⟩:=Int.eq_ofNat_of_zero_le v0
  have hcn:c<n:=by omega
  have hmo:=dE hv
  have hcnt:((row.take i).count (c:Int):Int)<=n:=by
   have:=List.count_le_length (a:=(c:Int)) (l:=row.take i)
   rw[List.length_take]at this
   omega
  obtain⟨h3,s3,b3,z3,o3⟩:=aA (v:=.int .i64 (((row.take i).count (c:Int):Int)+1)) b2 (o:=0+c) (by simp[iA];omega) rfl
  refine⟨i,rfl,b,o,hA,by omega,_,e0,λh=>absurd h (by omega),λ_=>⟨λh=>absurd h (by omega),λ_=>⟨c,rfl,hcn,((row.take i).count (c:Int):Int),?_,_,ah (by omega) (by omega),hcn,h3,s3,_,rfl,_,(by rw[Int.natCast_succ];exact ah (by omega) (by omega):IntKind.i64.wrap ((i:Int)+1)=((i+1:Nat):Int)),n - (i+1),by omega,i+1,rfl,by omega,rfl,?_,?_,⟨by have:=k2.next;omega,λb hb=>(o3 b (by omega)).trans (k2.get b hb)⟩,by omega⟩⟩⟩
  ·rw[aP b2,Nat.zero_add,List.getElem?_map,iB hcn];rfl
  ·rw[hmo];split <;>omega
  ·rw[Nat.zero_add,<-List.map_set]at b3
   rw[List.take_add_one,hv]
   show Bk h3 h.next ((tal (row.take i ++ [(c:Int)]) n).map _) _
   rw[sW hcn]
   exact b3
 ·obtain rfl:i=n:=by omega
  have hin:row.take i=row:=List.take_of_length_le (by omega)
  rw[hin]at b2 hm0 hm1⊢
  obtain⟨q,hq⟩:∃q:Nat,aI row=q:=⟨(aI row).toNat,by omega⟩
  refine⟨_,ah (by omega) (by omega),q,by omega,?_⟩
  rcases Nat.eq_zero_or_pos i with h0 | h0
  ·subst h0
   have hq0:q=0:=by omega
   subst hq0
   refine⟨_,_,_,(by kernel_rfl:aE Tryz.prog 3 (some ⟨h.next,0,none⟩) 0 (cx 0) none (some 0) none=some (.slice (some ⟨h.next,0,none⟩) 0 0)),qa (F:=λ_=>True) (xs:=[]) 0 ⟨rfl,.inr ⟨_,_,rfl⟩,λh=>absurd h (Nat.lt_irrefl _)⟩ (by omega) (by simp) ⟨_,rfl,λh=>Bool.noConfusion h,λ_=>hK _ _ _ _ k2⟩⟩
  ·obtain⟨K',hsl⟩:=Ck (n:=i) (g:=h.next) (k:=q) (by omega) h0
   have hz:(0:Int) ∉ tal row q:=λhm=>by
    obtain⟨j,hj⟩:=List.getElem?_of_mem hm
    have hjl:=(List.getElem?_eq_some_iff.1 hj).1
    rw[iA]at hjl
    rw[iB hjl]at hj
    exact(te h1).1 h2 j (by omega) (Option.some.inj hj)
   have hsa:Sa cI (λb=>b=h.next) h2' (some ⟨h.next,0,none⟩) q K' (tal row q):=by
    have:=Sa.of_ints (F:=λb=>b=h.next) (n:=i) (K:=K') (k:=.i64) b2 (iA _ _) rfl lt2
    refine⟨iA _ _,.inr ⟨_,_,rfl⟩,λ_=>⟨h.next,0,rfl,rfl,lt2,λk x hk=>?_⟩⟩
    have hkl:=(List.getElem?_eq_some_iff.1 hk).1
    rw[iA]at hkl
    refine⟨[.int .i64 x],λj u hu=>?_,rfl⟩
    match j,hu with
    | 0,hu=>
     obtain rfl:=Option.some.inj hu
     show ldC h2' h.next (0+(k*1+0))=_
     rw[aP b2,Nat.mul_one,Nat.add_zero,Nat.zero_add,List.getElem?_map,iB (by omega),<-iB hkl,hk];rfl
   exact⟨_,_,_,hsl,qa 0 hsa (by omega) hz ⟨_,rfl,λh=>Bool.noConfusion h,λ_=>hK _ _ _ _ k2⟩⟩
end
end Eva
end
section
open Go Go.RowKit
namespace Eva
section
variable {h h':AH}{F:Nat->Prop}{Q:Value->AH->Prop}{A:Option Addr}{n K:Nat}{p:List (List Int)}{row:List Int}
theorem zD (hs:Sz cI F h A n K row) (hn:n<=4096) (hx:∀x∈row,0<=x/\x<4096) (hK:Q (.int .i64 (aI row)) h):WC Tryz.prog 211 [.slice A n K] h Q:=by
 have ln:=hs.len
 refine rL ⟨λm x y h1=>∃i:Nat,y=i/\i<=n/\m=n - i/\x=aI (row.take i)/\h1=h,n,⟨0,rfl,Nat.zero_le _,rfl,rfl,rfl⟩,?_⟩
 rintro m x y h1 ⟨i,rfl,hi,hm,rfl,rfl⟩
 refine⟨λhlt=>?_,λhge=>?_⟩
 ·obtain⟨b,o,v,hA,-,-,hv,e0⟩:=hs.int (k:=i) (by omega)
  have:=hx v (List.mem_of_getElem? hv)
  refine⟨i,rfl,b,o,hA,by omega,_,e0,_,ah (by omega) (by omega),_,rfl,_,wrS (by omega),n - (i+1),by omega,i+1,rfl,by omega,rfl,?_,rfl⟩
  rw[dE hv]
  split <;>omega
 ·obtain rfl:i=n:=by omega
  rw[List.take_of_length_le (by omega)]
  exact hK
theorem xK {nv l:Nat}(hs0:Sz (Rc.sliceZ cI) F h A n K p) (hn:n<=6) (hnv:nv<=4096) (h1l:1<=l) (hl:l<=n) (hr:p[l - 1]? = some row) (hlow:∀low,2<=l->p[l - 2]? = some low->low.length=nv)
  (hK:∀e h',Nw h h'->(e=0->row.length=nv/\jW nv row/\dW row/\∀low,2<=l->p[l - 2]? = some low->eW low row)->Q (.int .i64 e) h') :
  WC Tryz.prog 139 [.int .i64 nv,.agg #[.slice A n K],.int .i64 l,.slice none 0 0] h Q:=by
 have hs:Sz (Rc.sliceZ cI) (λz=>z<h.next) h A n K p:=hs0.mono λz _ hz=>hz
 have ln:=hs.len
 refine jA λh1 e1=>?_
 obtain⟨k1,g1,z1⟩:=aj e1
 obtain⟨b,o,A4,n4,K4,row',hA,hF,hb,hr',e0,s4⟩:=(hs.nw k1).rowZ (k:=l - 1) (by omega)
 rw[hr]at hr'
 obtain rfl:=Option.some.inj hr'
 have l4:=s4.len
 refine⟨_,_,_,aa g1 rfl,_,ah (by omega) (by omega),l - 1,by omega,b,o,hA,by omega,A4,n4,K4,e0,λheq=>?_,λ_=>hK _ h1 k1 (λh=>absurd h (by decide))⟩
 have hn4:n4=nv:=by omega
 subst hn4
 refine⟨λm x h2=>∃i:Nat,x=i/\i<=n4/\m=n4 - i/\h2=h1/\∀x∈row.take i,0<=x/\x<n4,n4,⟨0,rfl,Nat.zero_le _,rfl,rfl,by simp⟩,?_⟩
 rintro m x h2 ⟨i,rfl,hi,hm,rfl,hin⟩
 refine⟨λhlt=>?_,λhge=>?_⟩
 ·obtain⟨b',o',x,hA',-,-,hx,f0⟩:=s4.int (k:=i) (by omega)
  refine⟨i,rfl,b',o',hA',by omega,_,f0,λ_=>hK _ h2 k1 (λh=>absurd h (by decide)),λx0=>⟨by omega,_,f0,λ_=>hK _ h2 k1 (λh=>absurd h (by decide)),λx1=>⟨_,wrS (by omega),n4 - (i+1),by omega,i+1,rfl,by omega,rfl,rfl,λy hy=>?_⟩⟩⟩
  rw[List.take_add_one,hx,List.mem_append]at hy
  rcases hy with hy | hy
  ·exact hin y hy
  ·simp at hy;subst hy;omega
 ·obtain rfl:i=n4:=by omega
  have hfull:row.take i=row:=List.take_of_length_le (by omega)
  rw[hfull]at hin
  have hm0:=cD row
  have hm1:aI row<=i:=cP (by omega) λx hx=>(hin x hx).2
  refine⟨i,rfl,by omega,λh3 e3=>?_⟩
  obtain⟨k3,g3,z3⟩:=aj e3
  rw[a9]at g3
  refine⟨λm x h4=>∃j:Nat,x=j/\j<=i/\m=i - j/\Bk h4 h2.next ((tal (row.take j) i).map (Value.int .i64)) 3/\Nw h2 h4/\h2.next<h4.next,i,⟨0,rfl,Nat.zero_le _,rfl,by rw[List.take_zero,vR,List.map_replicate];exact g3,k3,by omega⟩,?_⟩
  rintro m' x h4 ⟨j,rfl,hj,hm',b4,k4,lt4⟩
  refine⟨λhlt=>?_,λhge'=>?_⟩
  ·obtain⟨b',o',x,hA',-,-,hx,f0⟩:=(s4.nw k4).int (k:=j) (by omega)
   obtain⟨x0,x1⟩:=hin x (List.mem_of_getElem? hx)
   obtain⟨c,rfl⟩:=Int.eq_ofNat_of_zero_le x0
   have hc:c<i:=by omega
   have hcnt:((row.take j).count (c:Int):Int)<=i:=by
    have:=List.count_le_length (a:=(c:Int)) (l:=row.take j)
    rw[List.length_take]at this
    omega
   obtain⟨h5,s5,b5,z5,o5⟩:=aA (v:=.int .i64 (((row.take j).count (c:Int):Int)+1)) b4 (o:=0+c) (by simp[iA];omega) rfl
   refine⟨j,rfl,b',o',hA',by omega,_,f0,c,rfl,hc,((row.take j).count (c:Int):Int),?_,_,ah (by omega) (by omega),hc,h5,s5,_,wrS (by omega),i - (j+1),by omega,j+1,rfl,by omega,rfl,?_,⟨by have:=k4.next;omega,λz hz=>(o5 z (by omega)).trans (k4.get z hz)⟩,by omega⟩
   ·rw[aP b4,Nat.zero_add,List.getElem?_map,iB hc];rfl
   ·rw[Nat.zero_add,<-List.map_set]at b5
    rw[List.take_add_one,hx]
    show Bk h5 h2.next ((tal (row.take j ++ [(c:Int)]) i).map _) _
    rw[sW hc]
    exact b5
  ·obtain rfl:j=i:=by omega
   rw[hfull]at b4
   refine⟨λm x h6=>∃c:Nat,x=c/\(c:Int)<=aI row/\m=(aI row).toNat - c/\h6=h4/\∀d:Nat,d<c->(row.count (d:Int):Int)≠0,(aI row).toNat,⟨0,rfl,by omega,rfl,rfl,λd h=>absurd h (by omega)⟩,?_⟩
   rintro m3 x h6 ⟨c,rfl,hc,hm3,rfl,hd⟩
   refine zD (s4.nw k4) hnv (λx hx=>by have:=hin x hx;omega) ⟨_,rfl,λhlt=>?_,λhge3=>?_⟩
   ·have hcj:c<j:=by omega
    refine⟨c,rfl,hcj,(row.count (c:Int):Int),by rw[aP b4,Nat.zero_add,List.getElem?_map,iB hcj];rfl,λ_=>hK _ h6 (k1.trans k4) (λh=>absurd h (by decide)),λhne=>⟨_,wrS (by omega),(aI row).toNat - (c+1),by omega,c+1,rfl,by omega,rfl,rfl,λd hd'=>?_⟩⟩
    by_cases e:d=c
    ·subst e;exact hne
    ·exact hd d (by omega)
   ·have hfr:dW row:=(te hin).2 λc' hc'=>hd c' (by omega)
    have k6:=k1.trans k4
    refine⟨λh8=>h8=h6/\∀low,2<=l->p[l - 2]? = some low->eW low row,?_,?_⟩
    ·rintro h8 ⟨rfl,hnest⟩
     have done:Q (.int .i64 0) h8:=hK 0 h8 k6 λ_=>⟨by omega,hin,hfr,hnest⟩
     refine⟨λm x h9=>x=0/\h9=h8,0,⟨rfl,rfl⟩,?_⟩
     rintro m4 x h9 ⟨rfl,rfl⟩
     exact⟨λ_=>⟨λh=>absurd h (by decide),λ_=>done⟩,λ_=>done⟩
    ·refine⟨λm x h10=>∃a:Nat,x=a/\a<=j/\m=j - a/\h10=h6/\∀low,2<=l->p[l - 2]? = some low->∀(a' b':Nat) (x y x' y':Int),a' < a->low[a']? = some x->low[b']? = some y->row[a']? = some x'->row[b']? = some y'->x<=y->x'<=y',j,⟨0,rfl,Nat.zero_le _,rfl,rfl,λlow _ _ a' b' x y x' y' h=>absurd h (by omega)⟩,?_⟩
     rintro m5 x h10 ⟨a,rfl,ha,hm5,rfl,hna⟩
     refine⟨λhlt=>⟨λhl1=>?_,λhl1=>⟨rfl,λlow h=>absurd h (by omega)⟩⟩,λhge5=>⟨rfl,λlow h2 hlo a' b' x y x' y' g1 g2 g3 g4 hxy=>hna low h2 hlo a' b' x y x' y' (by have:=(List.getElem?_eq_some_iff.1 g3).1;omega) g1 g2 g3 g4 hxy⟩⟩
     obtain⟨b5,o5,A6,n6,K6,low,hA5,-,-,hlo,f5,s6⟩:=(hs.nw k6).rowZ (k:=l - 2) (by omega)
     have hll:=hlow low (by omega) hlo
     have l6:=s6.len
     refine⟨λm x h11=>∃q:Nat,x=q/\q<=j/\m=j - q/\h11=h10/\∀(b':Nat) (x y x' y':Int),b' < q->low[a]? = some x->low[b']? = some y->row[a]? = some x'->row[b']? = some y'->x<=y->x'<=y',j,⟨0,rfl,Nat.zero_le _,rfl,rfl,λb' x y x' y' h=>absurd h (by omega)⟩,?_⟩
     rintro m6 x h11 ⟨q,rfl,hq,hm6,rfl,hnq⟩
     refine⟨λhlt'=>?_,λhge6=>?_⟩
     ·obtain⟨b6,o6,x,hA6,-,-,hx,fx⟩:=s6.int (k:=a) (by omega)
      obtain⟨b7,o7,y,hA7,-,-,hy,fy⟩:=s6.int (k:=q) (by omega)
      obtain⟨b8,o8,x',hA8,-,-,hx',fx'⟩:=(s4.nw k4).int (k:=a) (by omega)
      obtain⟨b9,o9,y',hA9,-,-,hy',fy'⟩:=(s4.nw k4).int (k:=q) (by omega)
      rw[hA8]at hA9
      injection hA9 with hA9
      injection hA9 with q1 q2
      subst q1 q2
      have gp:=k4.bk (by omega) g1
      have next:(x<=y->x'<=y')->∃x32,IntKind.i64.wrap ((q:Int)+1)=x32/\∃m':Nat,m' < m6/\∃q':Nat,x32=q'/\q'<=j/\m' = j - q'/\h11=h11/\∀(b':Nat) (x y x' y':Int),b' < q'->low[a]? = some x->low[b']? = some y->row[a]? = some x'->row[b']? = some y'->x<=y->x'<=y':=λhxy=>⟨_,wrS (by omega),j - (q+1),by omega,q+1,rfl,by omega,rfl,rfl,λb' u v u' v' hb' g1 g2 g3 g4 huv=>by
       by_cases e:b' = q
       ·subst e
        obtain rfl:=Option.some.inj (hx.symm.trans g1)
        obtain rfl:=Option.some.inj (hy.symm.trans g2)
        obtain rfl:=Option.some.inj (hx'.symm.trans g3)
        obtain rfl:=Option.some.inj (hy'.symm.trans g4)
        exact hxy huv
       ·exact hnq b' u v u' v' (by omega) g1 g2 g3 g4 huv⟩
      refine⟨_,_,_,aa gp rfl,_,ah (by omega) (by omega),l - 2,by omega,b5,o5,hA5,by omega,_,_,_,f5,a,rfl,b6,o6,hA6,by omega,_,fx,_,_,_,aa gp rfl,_,ah (by omega) (by omega),l - 2,by omega,b5,o5,hA5,by omega,_,_,_,f5,q,rfl,b7,o7,hA7,by omega,_,fy,λhxy=>⟨b8,o8,hA8,by omega,_,fx',by omega,_,fy',λ_=>hK _ h11 k6 (λh=>absurd h (by decide)),λhle=>next λ_=>by omega⟩,λhxy=>next λh=>absurd h hxy⟩
     ·obtain rfl:q=j:=by omega
      refine⟨_,wrS (by omega),q - (a+1),by omega,a+1,rfl,by omega,rfl,rfl,λlow' h2 hlo' a' b' x y x' y' ha' g1 g2 g3 g4 hxy=>?_⟩
      by_cases e:a' = a
      ·subst e
       obtain rfl:=Option.some.inj (hlo.symm.trans hlo')
       exact hnq b' x y x' y' (by have:=(List.getElem?_eq_some_iff.1 g4).1;omega) g1 g2 g3 g4 hxy
      ·exact hna low' h2 hlo' a' b' x y x' y' (by omega) g1 g2 g3 g4 hxy
end
end Eva
end
section
open Go Go.RowKit
def nY (N:ab):Prop:=N.vs.length<=80/\N.xa.length<=300/\N.ts.length<=80/\∀t∈N.ts,t.2.2.length<=300
namespace Eva
section
variable {h h':AH}{F G:Nat->Prop}{Q:Value->AH->Prop}{A Av Aa At Ap:Option Addr}{n K nv Kv na Ka nt Kt np Kp:Nat}{N:ab}{p:List (List Int)}
theorem zE {v:Nat}(hs0:Sz (Rc.sliceZ cI) F h A n K p) (hK:∀A' n' K' e h',Nw h h'->(e=0->ax v p)->Q (.agg #[.slice A' n' K',.int .i64 e]) h') :
  WC Tryz.prog 68 [.int .i64 v,.agg #[.slice A n K],.slice none 0 0] h Q:=by
 have hs:Sz (Rc.sliceZ cI) (λz=>z<h.next) h A n K p:=hs0.mono λz _ hz=>hz
 have ln:=hs.len
 refine kp λh1 e1 h2 e2=>?_
 obtain⟨k1,g1,z1⟩:=aj e1
 obtain⟨k2,g2,z2⟩:=aj e2
 have k12:=k1.trans k2
 have g12:=k2.bk (by omega) g1
 have err:∀{h3}{s:ByteArray}{x e:Int},Nw h2 h3->e≠0->WC Tryz.prog 69 [.string s,.int .i64 x,.int .i64 e] h3 (λv1 h3=>∃(A2:Option Addr) (n2:Nat) (K2:Nat) (x4:Int),v1 = .agg #[.slice A2 n2 K2,.int .i64 x4]/\∃h4:AH,stC h3 h1.next 0 [.slice A2 n2 K2,.int .i64 x4]=some h4/\∃(A3:Option Addr) (n3:Nat) (K3:Nat) (x5:Int),ldN h4 h1.next 0 2=some [.slice A3 n3 K3,.int .i64 x5]/\Q (.agg #[.slice A3 n3 K3,.int .i64 x5]) h4):=fun {h3 s x e} k3 he=>
  aAt λA' h' s' k'=>⟨_,_,_,_,rfl,rt ((k3.trans k').bk (by omega) g2) λh4 m4=>hK _ _ _ _ h4 (m4.is_nw ((k12.trans k3).trans k') λz hz=>by omega) (λh=>absurd h he)⟩
 refine⟨λh3=>h3=h2/\v<=4096/\n<=6/\n≠0,?_,λh=>absurd h (by omega),λv0=>⟨λ_=>err (Nw.refl _) (by decide),λv1=>⟨_,_,_,aa g12 rfl,λ_=>err (Nw.refl _) (by decide),λn6=>⟨_,_,_,aa g12 rfl,λ_=>err (Nw.refl _) (by decide),λn0=>⟨λh=>absurd h (by decide),λ_=>⟨rfl,by omega,by omega,by omega⟩⟩⟩⟩⟩⟩
 rintro h3 ⟨rfl,hv,hn6,hn0⟩
 refine⟨λm x h4=>∃l:Nat,x=l/\1<=l/\l<=n+1/\m=n+1 - l/\Nw h3 h4/\∀(k:Nat) (row:List Int),k+1<l->p[k]? = some row->row.length=v/\jW v row/\dW row/\∀low,1<=k->p[k - 1]? = some low->eW low row,n,⟨1,rfl,by omega,by omega,rfl,Nw.refl _,λk row h=>absurd h (by omega)⟩,?_⟩
 rintro m x h4 ⟨l,rfl,hl1,hl,hm,k4,hok⟩
 have hs4:=hs.nw (k12.trans k4)
 refine⟨_,_,_,aa (k4.bk (by omega) g12) rfl,λhle=>?_,λhgt=>?_⟩
 ·have hr:p[l - 1]? = some (p[l - 1]'(by omega)):=List.getElem?_eq_getElem (by omega)
  refine⟨_,_,_,dL (aa (k4.bk (by omega) g12) rfl),xK hs4 hn6 hv hl1 (by omega) hr (λlow h2 hlo=>(hok (l - 2) low (by omega) hlo).1) λe h5 k5 hz=>⟨e,rfl,λhe=>⟨_,wrS (by omega),n+1 - (l+1),by omega,l+1,rfl,by omega,by omega,rfl,k4.trans k5,λk row hk hrow=>?_⟩,λhe=>err (k4.trans k5) he⟩⟩
  by_cases e:k+1=l
  ·have hk':k=l - 1:=by omega
   subst hk'
   rw[hr]at hrow
   obtain rfl:=Option.some.inj hrow
   obtain⟨y1,y2,y3,y4⟩:=hz he
   exact⟨y1,y2,y3,λlow h1 hlo=>y4 low (by omega) (by rw[show l - 2=l - 1 - 1 by omega];exact hlo)⟩
  ·exact hok k row (by omega) hrow
 ·have hl':l=n+1:=by omega
  refine rt (k4.bk (by omega) g2) λh5 m5=>hK _ _ _ _ h5 (m5.is_nw (k12.trans k4) λz hz=>by omega) λ_=>?_
  have all:∀x∈p,x.length=v/\jW v x/\dW x:=λx hx=>by
   obtain⟨k,hk⟩:=List.getElem?_of_mem hx
   obtain⟨y1,y2,y3,-⟩:=hok k x (by have:=(List.getElem?_eq_some_iff.1 hk).1;omega) hk
   exact⟨y1,y2,y3⟩
  exact⟨hv,by omega,by omega,λx hx=>(all x hx).1,λx hx=>(all x hx).2.1,λx hx=>(all x hx).2.2,λk l' r h1 h2=>(hok (k+1) r (by have:=(List.getElem?_eq_some_iff.1 h2).1;omega) h2).2.2.2 l' (by omega) (by rw[Nat.add_sub_cancel];exact h1)⟩
theorem C8 (hs:Sz (Rc.sliceZ cI) F h A n K p) (hmx:n<=9223372036854775807) (hK:∀b h',Nw h h'->(b=true->n<=10/\∀x∈p,x.length<=60)->Q (.bool b) h'):WC Tryz.prog 67 [.agg #[.slice A n K]] h Q:=by
 have ln:=hs.len
 refine tS λh1 e1=>?_
 obtain⟨k1,g1,z1⟩:=aj e1
 refine⟨λm x h2=>∃i:Nat,x=i/\i<=n/\m=n - i/\h2=h1/\∀x∈p.take i,x.length<=60,n,⟨0,rfl,Nat.zero_le _,rfl,rfl,by simp⟩,?_⟩
 rintro m x h2 ⟨i,rfl,hi,hm,rfl,hx⟩
 refine⟨_,_,_,aa g1 rfl,λhlt=>?_,λhge=>⟨_,_,_,aa g1 rfl,λhle=>hK true h2 k1 λ_=>⟨by omega,λx hm=>hx x (by rw[List.take_of_length_le (by omega)];exact hm)⟩,λ_=>hK false h2 k1 λh=>Bool.noConfusion h⟩⟩
 obtain⟨b,o,A4,n4,K4,row,hA,-,-,hr,e0,s4⟩:=(hs.nw k1).rowZ (k:=i) (by omega)
 have l4:=s4.len
 have wi:IntKind.i64.wrap ((i:Int)+1)=((i+1:Nat):Int):=by
  have:=(List.getElem?_eq_some_iff.1 hr).1
  rw[Int.natCast_succ];exact ah (by omega) (by omega)
 refine⟨_,_,_,aa g1 rfl,i,rfl,b,o,hA,by omega,A4,n4,K4,e0,λ_=>hK false h2 k1 λh=>Bool.noConfusion h,λhle=>⟨_,wi,n - (i+1),by omega,i+1,rfl,by omega,rfl,rfl,λy hy=>?_⟩⟩
 rw[List.take_add_one,hr,List.mem_append]at hy
 rcases hy with hy | hy
 ·exact hx y hy
 ·simp at hy;subst hy;omega
theorem C9 {v:Nat}(hs:Sz (Rc.sliceZ cI) F h A n K p) (hmx:n<=9223372036854775807) (hK:∀b h',Nw h h'->(b=true->n<=10/\(∀x∈p,x.length<=60)/\v<=60/\ax v p)->Q (.bool b) h'):WC Tryz.prog 25 [.int .i64 v,.agg #[.slice A n K]] h Q:=by
 refine tR λh1 e1=>?_
 obtain⟨k1,g1,z1⟩:=aj e1
 refine⟨_,_,_,dL (aa g1 rfl),C8 (hs.nw k1) hmx λb h2 k2 hb=>⟨b,rfl,λht=>⟨λh60=>⟨_,_,_,dL (aa (k2.bk (by omega) g1) rfl),zE (hs.nw (k1.trans k2)) λA' n' K' e h3 k3 he=>⟨_,_,_,_,rfl,λh0=>hK true h3 ((k1.trans k2).trans k3) λ_=>⟨(hb ht).1,(hb ht).2,by omega,he h0⟩,λ_=>hK false h3 ((k1.trans k2).trans k3) λh=>Bool.noConfusion h⟩⟩,λ_=>hK false h2 (k1.trans k2) λh=>Bool.noConfusion h⟩,λ_=>hK false h2 (k1.trans k2) λh=>Bool.noConfusion h⟩⟩
theorem DZ (Z:cz h F Av nv Kv Aa na Ka At nt Kt N) (hK:∀b h',Nw h h'->(b=true->nY N)->Q (.bool b) h'):WC Tryz.prog 65 [.agg #[.slice Av nv Kv,.slice Aa na Ka,.slice At nt Kt]] h Q:=by
 have lv:=Z.vs.len
 have la:=Z.xa.len
 have lt:=Z.ts.len
 refine vg λh1 e1=>?_
 obtain⟨k1,g1,z1⟩:=aj e1
 have no:∀{h'},Nw h h'->Q (.bool false) h':=λk=>hK false _ k λh=>Bool.noConfusion h
 refine⟨_,_,_,aa g1 rfl,λ_=>no k1,λn0=>⟨_,_,_,aa g1 rfl,λ_=>no k1,λn1=>⟨_,_,_,aa g1 rfl,λ_=>no k1,λn2=>?_⟩⟩⟩
 refine⟨λm x h2=>∃i:Nat,x=i/\i<=nt/\m=nt - i/\h2=h1/\∀t∈N.ts.take i,t.2.2.length<=300,nt,⟨0,rfl,Nat.zero_le _,rfl,rfl,by simp⟩,?_⟩
 rintro m x h2 ⟨i,rfl,hi,hm,rfl,hx⟩
 refine⟨_,_,_,aa g1 rfl,λhlt=>?_,λhge=>hK true h2 k1 λ_=>⟨by omega,by omega,by omega,λt ht=>hx t (by rw[List.take_of_length_le (by omega)];exact ht)⟩⟩
 obtain⟨b',o',p',q',A',n',K',zs,hA',-,-,htt,f0,f1,f2,sz⟩:=(Z.nw k1).ts.tableZ (k:=i) (by omega)
 have l4:=sz.len
 refine⟨_,_,_,aa g1 rfl,i,rfl,b',o',hA',by omega,A',n',K',f2,λ_=>no k1,λhle=>⟨_,wrS (by omega),nt - (i+1),by omega,i+1,rfl,by omega,rfl,rfl,λy hy=>?_⟩⟩
 rw[List.take_add_one,htt,List.mem_append]at hy
 rcases hy with hy | hy
 ·exact hx y hy
 ·simp at hy;subst hy;simp only;omega
theorem D0 (Z:cz h F Av nv Kv Aa na Ka At nt Kt N) (hK:∀b h',Nw h h'->(b=true->nY N/\N.Ok)->Q (.bool b) h'):WC Tryz.prog 24 [.agg #[.slice Av nv Kv,.slice Aa na Ka,.slice At nt Kt]] h Q:=by
 refine vf λh1 e1=>?_
 obtain⟨k1,g1,z1⟩:=aj e1
 have bN:∀{h'},Nw h1 h'->ldN h' h.next 0 3=some [.slice Av nv Kv,.slice Aa na Ka,.slice At nt Kt]:=λa=>aG (aa (a.bk (by omega) g1) rfl) (aa (a.bk (by omega) g1) rfl) (aa (a.bk (by omega) g1) rfl)
 refine⟨_,_,_,_,_,_,_,_,_,bN (Nw.refl _),DZ (Z.nw k1) λb h2 k2 hb=>⟨b,rfl,λht=>⟨_,_,_,_,_,_,_,_,_,bN k2,Bu (Z.nw (k1.trans k2)) (λt hm=>by have:=(hb ht).2.2.2 t hm;omega) λA' n' K' e h3 k3 he=>⟨_,_,_,_,rfl,λh0=>hK true h3 ((k1.trans k2).trans k3) λ_=>⟨hb ht,he h0⟩,λ_=>hK false h3 ((k1.trans k2).trans k3) λh=>Bool.noConfusion h⟩⟩,λ_=>hK false h2 (k1.trans k2) λh=>Bool.noConfusion h⟩⟩
theorem EC (Z:cz h F Av nv Kv Aa na Ka At nt Kt N) (hs:Sz (Rc.sliceZ cI) G h Ap np Kp p) (hmx:np<=9223372036854775807) (hK:∀b h',Nw h h'->(b=true->nY N/\N.Ok/\N.nv<=60/\np<=10/\(∀x∈p,x.length<=60)/\ax N.nv p)->Q (.bool b) h') :
  WC Tryz.prog 5 [.agg #[.slice Av nv Kv,.slice Aa na Ka,.slice At nt Kt],.agg #[.slice Ap np Kp]] h Q:=by
 have lv:N.nv=nv:=Z.vs.len
 refine xT λh1 e1 h2 e2=>?_
 obtain⟨k1,g1,z1⟩:=aj e1
 obtain⟨k2,g2,z2⟩:=aj e2
 have k12:=k1.trans k2
 have g12:=k2.bk (by omega) g1
 refine⟨_,_,_,_,_,_,_,_,_,aG (aa g12 rfl) (aa g12 rfl) (aa g12 rfl),D0 (Z.nw k12) λb h3 k3 hb=>⟨b,rfl,λht=>⟨_,_,_,aa (k3.bk (by omega) g12) rfl,_,_,_,dL (aa (k3.bk (by omega) g2) rfl),C9 (hs.nw (k12.trans k3)) hmx λb' h4 k4 hb'=>⟨b',rfl,hK b' h4 ((k12.trans k3).trans k4) λht'=>?_⟩⟩,λ_=>hK false h3 (k12.trans k3) λh=>Bool.noConfusion h⟩⟩
 obtain⟨y1,y2,y3,y4⟩:=hb' ht'
 rw[lv]
 exact⟨(hb ht).1,(hb ht).2,y3,y1,y2,y4⟩
end
end Eva
end
section
open Go Go.RowKit
namespace Eva
section
variable {h h':AH}{F G:Nat->Prop}{Q:Value->AH->Prop}{A B:Option Addr}{n m K L:Nat}{xs ys low row:List Int}
theorem Bv (hs:Sa cI F h A n K low) (ht:Sa cI G h B n L row) (hn:n<=4096) (h1:jW n low) (h2:dW low) (h3:jW n row) (hne:eW low row) (hK:∀h',Nw h h'->Q (.bool true) h'):WC Tryz.prog 259 [.slice A n K,.slice B n L] h Q:=by
 have hl:=hs.len
 have hl':=ht.len
 refine oL ⟨by omega,λh1' e1=>?_⟩
 obtain⟨k1,g1,z1⟩:=aj e1
 rw[a9]at g1
 refine⟨λm x h2'=>∃i:Nat,x=i/\i<=n/\m=n - i/\Bk h2' h.next ((List.replicate i (-1:Int) ++ List.replicate (n - i) 0).map (Value.int .i64)) 3/\Nw h h2'/\h.next<h2'.next,n,⟨0,rfl,Nat.zero_le _,rfl,by rw[List.replicate_zero,List.nil_append,List.map_replicate];exact g1,k1,by omega⟩,?_⟩
 rintro m x h2' ⟨i,rfl,hi,hm,b2,k2,lt2⟩
 refine⟨λhlt=>?_,λhge=>?_⟩
 ·obtain⟨h3',s3,b3,z3,o3⟩:=aA (v:=.int .i64 (-1)) b2 (o:=0+i) (by simp;omega) rfl
  refine⟨i,rfl,by omega,h3',s3,_,(by rw[Int.natCast_succ];exact ah (by omega) (by omega):IntKind.i64.wrap ((i:Int)+1)=((i+1:Nat):Int)),n - (i+1),by omega,i+1,rfl,by omega,rfl,?_,⟨by have:=k2.next;omega,λb hb=>(o3 b (by omega)).trans (k2.get b hb)⟩,by omega⟩
  have e:List.replicate (i+1) (-1:Int) ++ List.replicate (n - (i+1)) 0=(List.replicate i (-1:Int) ++ List.replicate (n - i) 0).set i (-1):=by
   rw[List.set_append_right _ _ (by simp),List.length_replicate,Nat.sub_self,show n - i=(n - (i+1))+1 by omega,List.replicate_succ (n:=n - (i+1)),List.set_cons_zero,List.replicate_succ',List.append_assoc]
   rfl
  rw[e,List.map_set]
  rw[Nat.zero_add]at b3
  exact b3
 ·obtain rfl:i=n:=by omega
  rw[Nat.sub_self,List.replicate_zero,List.append_nil]at b2
  refine⟨λm x y h4=>∃(v:Nat) (up:List Int),y=v/\v<=i/\m=i - v/\x=aI (low.take v) - 1/\up.length=i/\Bk h4 h.next (up.map (Value.int .i64)) 3/\UpA low row v up/\(∀u∈up,-1<=u)/\Nw h h4/\h.next<h4.next,i,⟨0,_,rfl,Nat.zero_le _,rfl,by simp[aI],by simp,b2,⟨λv x y h=>by omega,λc u h=>.inl (List.eq_of_mem_replicate (List.mem_of_getElem? h))⟩,λu h=>by have:=List.eq_of_mem_replicate h;omega,k2,lt2⟩,?_⟩
  rintro m x y h4 ⟨v,up,rfl,hv,hm,rfl,hul,b4,hup,hu1,k4,lt4⟩
  have hm0:=cD (low.take v)
  have hm1:aI (low.take v)<=i:=cP (by omega) λx hx=>(h1 x (List.mem_of_mem_take hx)).2
  refine⟨λhlt=>?_,λhge=>?_⟩
  ·obtain⟨b,o,x,hA,-,-,hx,e0⟩:=(hs.nw k4).int (k:=v) (by omega)
   obtain⟨b',o',r,hB,-,-,hr,e1'⟩:=(ht.nw k4).int (k:=v) (by omega)
   obtain⟨x0,x1⟩:=h1 x (List.mem_of_getElem? hx)
   obtain⟨c,rfl⟩:=Int.eq_ofNat_of_zero_le x0
   have hcn:c<i:=by omega
   have hmo:=dE hx
   obtain⟨u,hu⟩:∃u,up[c]? = some u:=⟨_,List.getElem?_eq_getElem (by omega)⟩
   have hub:=hu1 u (List.mem_of_getElem? hu)
   have rd:ldC h4 h.next (0+c)=some (.int .i64 u):=by
    rw[aP b4,Nat.zero_add,List.getElem?_map,hu];rfl
   have hor:u<0\/u=r:=by
    rcases hup.from_ c u hu with h | ⟨v',-,g1,g2⟩
    ·exact .inl (by omega)
    ·exact .inr (hne.eq g1 hx g2 hr)
   obtain⟨h5,s5,b5,z5,o5⟩:=aA (v:=.int .i64 r) b4 (o:=0+c) (by simp;omega) rfl
   rw[Nat.zero_add,<-List.map_set]at b5
   have fin:∃x10,(if aI (low.take v) - 1<(c:Int) then(c:Int) else aI (low.take v) - 1)=x10/\∃x11,IntKind.i64.wrap ((v:Int)+1)=x11/\∃m':Nat,m' < m/\∃(v':Nat) (up:List Int),x11=v'/\v'<=i/\m' = i - v'/\x10=aI (low.take v') - 1/\up.length=i/\Bk h5 h.next (up.map (Value.int .i64)) 3/\UpA low row v' up/\(∀u∈up,-1<=u)/\Nw h h5/\h.next<h5.next:=by
    refine⟨_,rfl,_,(by rw[Int.natCast_succ];exact ah (by omega) (by omega):IntKind.i64.wrap ((v:Int)+1)=((v+1:Nat):Int)),i - (v+1),by omega,v+1,up.set c r,rfl,by omega,rfl,?_,by simp[hul],b5,hup.next hx hr hu hor (λx hx=>(h3 x hx).1),λz hz=>?_,⟨by have:=k4.next;omega,λb hb=>(o5 b (by omega)).trans (k4.get b hb)⟩,by omega⟩
    ·rw[hmo];split <;>omega
    ·rcases List.mem_or_eq_of_mem_set hz with h | h
     ·exact hu1 z h
     ·have:=(h3 r (List.mem_of_getElem? hr)).1
      omega
   refine⟨v,rfl,b,o,hA,by omega,_,e0,c,rfl,hcn,u,rd,λhu0=>⟨hcn,u,rd,b',o',hB,by omega,_,e1',λhe=>⟨by omega,_,e1',hcn,h5,s5,fin⟩,λhe=>absurd (hor.resolve_left (by omega)) he⟩,λhu0=>⟨b',o',hB,by omega,_,e1',hcn,h5,s5,fin⟩⟩
  ·obtain rfl:v=i:=by omega
   have hin:low.take v=low:=List.take_of_length_le (by omega)
   rw[hin]at hm0 hm1⊢
   obtain⟨q,hq⟩:∃q:Nat,aI low=q:=⟨(aI low).toNat,by omega⟩
   refine⟨_,ah (by omega) (by omega),q,by omega,?_⟩
   rcases Nat.eq_zero_or_pos v with h0 | h0
   ·subst h0
    have hq0:q=0:=by omega
    subst hq0
    refine⟨_,_,_,(by kernel_rfl:aE Tryz.prog 3 (some ⟨h.next,0,none⟩) 0 (cx 0) none (some 0) none=some (.slice (some ⟨h.next,0,none⟩) 0 0)),we (F:=λ_=>True) (xs:=[]) ⟨rfl,.inr ⟨_,_,rfl⟩,λh=>absurd h (Nat.lt_irrefl _)⟩ (by omega) (λc y z h=>by omega) ⟨_,rfl,hK _ k4⟩⟩
   ·obtain⟨K',hsl⟩:=Ck (n:=v) (g:=h.next) (k:=q) (by omega) h0
    have hris:kW up q:=by
     have:=(zg (up:=up) h1 h2 (by omega) (λa x y hx hy=>hup.here a x y (by have:=(List.getElem?_eq_some_iff.1 hx).1;omega) hx hy)).1 hne
     rwa [show(aI low).toNat=q by omega]at this
    have hsa:Sa cI (λb=>b=h.next) h4 (some ⟨h.next,0,none⟩) q K' (up.take q):=by
     refine⟨by rw[List.length_take];omega,.inr ⟨_,_,rfl⟩,λ_=>⟨h.next,0,rfl,rfl,lt4,λk x hk=>?_⟩⟩
     have hkl:=(List.getElem?_eq_some_iff.1 hk).1
     rw[List.length_take]at hkl
     rw[List.getElem?_take,if_pos (by omega)]at hk
     refine⟨[.int .i64 x],λj u hu=>?_,rfl⟩
     match j,hu with
     | 0,hu=>
      obtain rfl:=Option.some.inj hu
      show ldC h4 h.next (0+(k*1+0))=_
      rw[aP b4,Nat.mul_one,Nat.add_zero,Nat.zero_add,List.getElem?_map,hk];rfl
    refine⟨_,_,_,hsl,we hsa (by omega) (λc y z hc hy hz=>?_) ⟨_,rfl,hK _ k4⟩⟩
    rw[List.getElem?_take,if_pos (by omega)]at hy hz
    exact hris c y z hc hy hz
theorem nZ {p:List (List Int)}{nv:Nat}(hs:Sa aY F h A n K p) (hp:ax nv p) (hK:∀h',Nw h h'->Q .nilIface h'):WC Tryz.prog 197 [.int .i64 nv,.agg #[.slice A n K],.slice none 0 0] h Q:=by
 have hn:=hs.len
 have h6:=hp.few
 have h1:=hp.some_
 have hnv:=hp.nv_
 refine qR λh1' e1 h2' e2=>?_
 obtain⟨k1,g1,z1⟩:=aj e1
 obtain⟨k2,g2,z2⟩:=aj e2
 have k12:=k1.trans k2
 refine⟨A,n,K,aa (k2.bk (by omega) g1) rfl,λh=>absurd h (by omega),λ_=>⟨λh=>absurd h (by omega),λ_=>⟨λh=>absurd h (by omega),λ_=>⟨λh=>absurd h (by omega),λ_=>⟨_,_,_,aa g2 rfl,λh=>absurd h (by decide),λ_=>⟨A,n,K,aa (k2.bk (by omega) g1) rfl,?_⟩⟩⟩⟩⟩⟩
 refine⟨λm x h3=>∃i:Nat,x=i/\i<=n/\m=n - i/\Nw h2' h3,n,⟨0,rfl,Nat.zero_le _,rfl,Nw.refl _⟩,?_⟩
 rintro m x h3 ⟨i,rfl,hi,hm,k3⟩
 refine⟨λhlt=>?_,λhge=>hK h3 (k12.trans k3)⟩
 have hs3:=hs.nw (k12.trans k3)
 obtain⟨b,o,A',n',K',row,hA,hF,hb,hr,e0,s0⟩:=hs3.row (k:=i) (by omega)
 have hm:=List.mem_of_getElem? hr
 have hrl:n' = nv:=by rw[<-s0.len];exact hp.rows _ hm
 subst hrl
 have wi:IntKind.i64.wrap ((i:Int)+1)=((i+1:Nat):Int):=by rw[Int.natCast_succ];exact ah (by omega) (by omega)
 refine⟨i,rfl,b,o,hA,by omega,A',n',K',e0,λh21 e21=>?_⟩
 obtain⟨h22,s22,k22,g22,z22⟩:=ay (vs:=[.int .i64 (i:Int)]) e21 rfl (by simp[flat])
 refine⟨h22,s22,λ_=>C7 (s0.nw k22) hnv (hp.inr _ hm) (hp.full _ hm) λA15 n15 K15 h23 k23=>⟨_,_,_,_,rfl,λ_=>⟨_,aa (k23.bk (by omega) g22) rfl,λhpos=>?_,λhz=>?_⟩,λh=>Bool.noConfusion h⟩,λh=>absurd rfl h⟩
 ·have k323:=k3.trans (k22.trans k23)
  have hs23:=hs3.nw (k22.trans k23)
  obtain⟨b',o',A2,n2,K2,low,hA',-,-,hlo,e0',s0'⟩:=hs23.row (k:=i - 1) (by omega)
  have hml:=List.mem_of_getElem? hlo
  have hll:n2=n':=by rw[<-s0'.len];exact hp.rows _ hml
  subst hll
  refine⟨A,n,K,aa ((k2.trans k323).bk (by omega) g1) rfl,_,aa (k23.bk (by omega) g22) rfl,_,ah (by omega) (by omega),i - 1,by omega,b',o',hA',by omega,A2,n2,K2,e0',Bv s0' (s0.nw (k22.trans k23)) hnv (hp.inr _ hml) (hp.full _ hml) (hp.inr _ hm) (hp.nest (i - 1) low row hlo (by rw[show i - 1+1=i by omega];exact hr)) λh24 k24=>⟨_,rfl,λ_=>⟨_,_,_,aa ((k323.trans k24).bk (by omega) g2) rfl,λh=>absurd h (by decide),λ_=>⟨_,wi,n - (i+1),by omega,i+1,rfl,by omega,rfl,k323.trans k24⟩⟩,λh=>Bool.noConfusion h⟩⟩
 ·have k323:=k3.trans (k22.trans k23)
  exact⟨_,_,_,aa (k323.bk (by omega) g2) rfl,λh=>absurd h (by decide),λ_=>⟨_,wi,n - (i+1),by omega,i+1,rfl,by omega,rfl,k323⟩⟩
end
end Eva
end
section
open Go Go.RowKit
def cv (N:ab) (p:List (List Int)) (k:Nat) (xs:List Nat) (s:Nat):List Nat:=if s % 2=0 then xs.filter (λa=>decide (cel p k (N.to a)=s / 2)) else xs.filter (λa=>decide (cel p k (N.fr a)=s / 2))
section
variable {N:ab}{p:List (List Int)}{k:Nat}
theorem uS (xs:List Nat) (a:Nat):upd (upd (cv N p k xs) (cel p k (N.to a)*2) (cv N p k xs (cel p k (N.to a)*2) ++ [a])) (cel p k (N.fr a)*2+1) (upd (cv N p k xs) (cel p k (N.to a)*2) (cv N p k xs (cel p k (N.to a)*2) ++ [a]) (cel p k (N.fr a)*2+1) ++ [a])=cv N p k (xs ++ [a]):=by
 funext s
 have hne:cel p k (N.fr a)*2+1≠cel p k (N.to a)*2:=by omega
 unfold upd
 rw[if_neg hne]
 by_cases h1:s=cel p k (N.fr a)*2+1
 ·subst h1
  rw[if_pos rfl]
  unfold cv
  rw[if_neg (by omega),if_neg (by omega),List.filter_append]
  have:(cel p k (N.fr a)*2+1) / 2=cel p k (N.fr a):=by omega
  simp[this]
 ·rw[if_neg h1]
  by_cases h2:s=cel p k (N.to a)*2
  ·subst h2
   rw[if_pos rfl]
   unfold cv
   rw[if_pos (by omega),if_pos (by omega),List.filter_append]
   have:(cel p k (N.to a)*2) / 2=cel p k (N.to a):=by omega
   simp[this]
  ·rw[if_neg h2]
   unfold cv
   by_cases h3:s % 2=0
   ·rw[if_pos h3,if_pos h3,List.filter_append]
    have:¬cel p k (N.to a)=s / 2:=by omega
    simp[this]
   ·rw[if_neg h3,if_neg h3,List.filter_append]
    have:¬cel p k (N.fr a)=s / 2:=by omega
    simp[this]
theorem xL (c:Nat):cv N p k (bD (N.crB p k) N.na) (c*2)=N.ins p k c:=by
 unfold cv
 rw[if_pos (by omega),show c*2 / 2=c by omega]
 unfold bD ab.ins bD
 rw[List.filter_filter]
 apply List.filter_congr
 intro a _
 unfold ab.crB ab.insB
 by_cases h1:cel p k (N.to a)=c
 ·simp[h1]
 ·simp[h1]
theorem uT (c:Nat):cv N p k (bD (N.crB p k) N.na) (c*2+1)=N.outs p k c:=by
 unfold cv
 rw[if_neg (by omega),show(c*2+1) / 2=c by omega]
 unfold bD ab.outs bD
 rw[List.filter_filter]
 apply List.filter_congr
 intro a _
 unfold ab.crB ab.outsB
 by_cases h1:cel p k (N.fr a)=c
 ·simp[h1,eq_comm]
 ·simp[h1]
theorem qb (xs:List Nat) (s:Nat):(cv N p k xs s).length<=xs.length:=by
 unfold cv
 split <;>exact List.length_filter_le _ _
end
namespace Eva
section
variable {h h':AH}{Fa F Fp:Nat->Prop}{g:Nat}{N:ab}{p:List (List Int)}{Q:Value->AH->Prop}{A:Option Addr}{n K:Nat}
theorem zF {A:Option Addr}{n K:Nat}(h:aZ (.slice A n K)):aZ (.agg #[.slice A n K]):=by
 intro v hv
 have hv':v = .slice A n K:=by simpa using hv
 subst hv'
 cases A with
 | none=>trivial
 | some a=>exact h
theorem Bw (G:GrA h Fa F g N) (hp:ax N.nv p) (hs:Sa aY Fp h A n K p)
  (hK:∀A' n' K' h',Sa (Rc.slice Rc.gate) (λb=>h.next<=b) h' A' n' K' ((List.range p.length).map λj=>N.gatesL p (j+1))->Nw h h'->Q (.slice A' n' K') h'):WC Tryz.prog 216 [.pointer (some ⟨g,0,none⟩),.agg #[.slice A n K]] h Q:=by
 have hn:=hs.len
 have h6:=hp.few
 have hna:=G.few.2
 have hnv:=G.few.1
 refine wX λh1 e1=>?_
 obtain⟨k1,g1,z1⟩:=aj e1
 have box:∀{h'},Nw h1 h'->ldN h' h.next 0 1=some [.slice A n K]:=λa=>dL (aa (a.bk (by omega) g1) rfl)
 refine⟨A,n,K,box (Nw.refl _),zw (G.nw k1) ⟨_,rfl,box (Nw.refl _),zF hs.eqok,nZ (hs.nw k1) hp λh3 k3=>⟨none,rfl,λ_=>⟨A,n,K,aa (k3.bk (by omega) g1) rfl,by omega,λh4 e4=>?_⟩,λt u h=>by cases h⟩⟩⟩
 obtain⟨k4,g4,z4⟩:=aj e4
 rw[a9]at g4
 have k14:=k3.trans k4
 have z1':=k14.next
 have z3:=k3.next
 refine⟨A,n,K,aa (k14.bk (by omega) g1) rfl,λm x h5=>∃(i:Nat) (B:Nat->Nat),x=i/\i<=n/\m=n - i/\Nw h1 h5/\h4.next<=h5.next/\
  Bk h5 h3.next ((List.range n).map λk=>if k<i then Value.slice (some ⟨B k,0,none⟩) (ap p (k+1)) (cx (ap p (k+1))) else .slice none 0 0) 102/\(∀k,k<i->Sa Rc.gate (λz=>h4.next<=z) h5 (some ⟨B k,0,none⟩) (ap p (k+1)) (cx (ap p (k+1))) (N.gatesL p (k+1))),n,⟨0,λ_=>0,rfl,Nat.zero_le _,rfl,k14,Nat.le_refl _,?_,λk h=>absurd h (by omega)⟩,?_⟩
 ·have e:(List.range n).map (λk=>if k<0 then Value.slice (some ⟨0,0,none⟩) (ap p (k+1)) (cx (ap p (k+1))) else .slice none 0 0)=List.replicate n (.slice none 0 0):=by
   have:(λk=>if k<0 then Value.slice (some ⟨0,0,none⟩) (ap p (k+1)) (cx (ap p (k+1))) else Value.slice none 0 0)=λ_=>Value.slice none 0 0:=by funext k;rw[if_neg (by omega)]
   rw[this,List.map_const',List.length_range]
  rw[e]
  exact g4
 rintro m x h5 ⟨i,B,rfl,hi,hm,k5,lt5,b5,sg5⟩
 refine⟨λhlt=>?_,λhge=>?_⟩
 ·have hs5:=hs.nw (k1.trans k5)
  obtain⟨b,o,A5,n5,K5,row,hA,hF,hbl,hr,e0,s5⟩:=hs5.row (k:=i) (by omega)
  have wi:IntKind.i64.wrap ((i:Int)+1)=((i+1:Nat):Int):=by rw[Int.natCast_succ];exact ah (by omega) (by omega)
  have hr':p[i+1 - 1]? = some row:=by rw[Nat.add_sub_cancel];exact hr
  obtain⟨hrl,hrx⟩:=cF hp hr'
  have hn5:n5=N.nv:=by rw[<-s5.len];exact hrl
  have hmf:=vZ hp (k:=i+1) (by omega) (by omega)
  refine⟨i,rfl,b,o,hA,by omega,A5,n5,K5,e0,A,n,K,box k5,_,wi,C4 hp hs5 (by omega) (by omega) λh6 k6=>⟨_,rfl,ap p (i+1),rfl,by omega,λh7 e7=>?_⟩⟩
  obtain⟨k7,g7,z7⟩:=aj e7
  rw[Bo]at g7
  have k57:=k6.trans k7
  refine⟨A,n,K,box (k5.trans k57),_,wi,C5 (G.nw ((k1.trans k5).trans k57)) hp (hs5.nw k57) (by omega) (by omega) λA8 n8 K8 h8 s8 k8=>⟨_,_,_,rfl,?_⟩⟩
  obtain⟨xs,hxs⟩:∃xs,bD (N.crB p (i+1)) N.na=xs:=⟨_,rfl⟩
  rw[hxs]at s8
  have hx8:xs.length=n8:=by have:=s8.len;simpa[ints]using this
  have hxl:xs.length<=N.na:=by rw[<-hxs];exact aC _ _
  have k58:=k57.trans k8
  have z6:=k6.next
  have z8:=k8.next
  have z5:=k5.next
  have S8:fN h8 h8.next h6.next (ap p (i+1)*2) 46 (cv N p (i+1) []):=by
   have e:cv N p (i+1) []=λ_=>[]:=by funext s;unfold cv;split <;>rfl
   rw[e]
   exact fN.new (k8.bk (by omega) g7) (by omega)
  refine⟨λm x h9=>∃j:Nat,x=j/\j<=n8/\m=n8 - j/\Nw h5 h9/\fN h9 h8.next h6.next (ap p (i+1)*2) 46 (cv N p (i+1) (xs.take j))/\Sa cI (λz=>h7.next<=z/\z<h8.next) h9 A8 n8 K8 (ints xs),n8,⟨0,rfl,Nat.zero_le _,rfl,k58,by rw[List.take_zero];exact S8,s8.mono λz hz hlt=>⟨hz,hlt⟩⟩,?_⟩
  rintro m' x h9 ⟨j,rfl,hj,hm',k9,S9,s9⟩
  refine⟨λhlt'=>?_,λhge'=>?_⟩
  ·obtain⟨b8,o8,y,hA8,-,-,hy,e8⟩:=s9.int (k:=j) (by omega)
   obtain⟨a,ha,rfl⟩:∃a:Nat,xs[j]? = some a/\y=(a:Int):=by
    unfold ints at hy
    rw[List.getElem?_map]at hy
    cases hv:xs[j]? with
    | none=>rw[hv]at hy;cases hy
    | some a=>rw[hv]at hy;exact⟨a,rfl,(Option.some.inj hy).symm⟩
   have han:a<N.na:=by
    have:=List.mem_of_getElem? ha
    rw[<-hxs]at this
    unfold bD at this
    exact List.mem_range.1 (List.mem_filter.1 this).1
   have G9:=G.nw ((k1.trans k5).trans k9)
   have hto:=(ab.to_lt G.ok han).1
   have hfr:=(ab.fr_lt G.ok han).1
   have s59:=s5.nw k9
   obtain⟨bt,ot,xt,hAt,-,-,hyt,et⟩:=s59.int (k:=N.to a) (by omega)
   obtain⟨bf,of_,xf,hAf,-,-,hyf,ef⟩:=s59.int (k:=N.fr a) (by omega)
   rw[hAt]at hAf
   injection hAf with hAf
   injection hAf with hA1 hA2
   subst hA1 hA2
   obtain⟨ut,hut,ut0,-⟩:=hrx _ hto
   obtain⟨uf,huf,uf0,-⟩:=hrx _ hfr
   rw[hyt]at hut
   rw[hyf]at huf
   obtain rfl:=Option.some.inj hut
   obtain rfl:=Option.some.inj huf
   have ct:xt=((cel p (i+1) (N.to a):Nat):Int):=by rw[cn hr' hyt];omega
   have cf:xf=((cel p (i+1) (N.fr a):Nat):Int):=by rw[cn hr' hyf];omega
   have ht1:=cE hp (k:=i+1) (by omega) (by omega) hto
   have hf1:=cE hp (k:=i+1) (by omega) (by omega) hfr
   have hsl1:=qb (N:=N) (p:=p) (k:=i+1) (xs.take j) (cel p (i+1) (N.to a)*2)
   have htl:(xs.take j).length<=xs.length:=by rw[List.length_take];omega
   have wj:IntKind.i64.wrap ((j:Int)+1)=((j+1:Nat):Int):=by rw[Int.natCast_succ];exact ah (by omega) (by omega)
   refine⟨j,rfl,b8,o8,hA8,by omega,_,e8,aTo G9 han ⟨_,rfl,_,rfl,bt,ot,hAt,by omega,_,et,cel p (i+1) (N.to a),ct,ht1,pV G9 han ⟨_,rfl,by rw[<-ct];exact et,_,rfl,by omega,_,ef,cel p (i+1) (N.fr a),cf,hf1,?_⟩⟩⟩
   obtain⟨A9,n9,K9,l9,H9⟩:=S9.app (s:=cel p (i+1) (N.to a)*2) (by omega) a (by omega)
   refine⟨A9,n9,K9,l9,λh12 e12=>?_⟩
   obtain⟨A10,n10,K10,h13,y13,h14,s14,S14,m14⟩:=H9 h12 e12
   have z14:=m14.next
   have z9:=k9.next
   have hz2:(upd (cv N p (i+1) (xs.take j)) (cel p (i+1) (N.to a)*2) (cv N p (i+1) (xs.take j) (cel p (i+1) (N.to a)*2) ++ [a]) (cel p (i+1) (N.fr a)*2+1)).length<=100000:=by
    unfold upd
    rw[if_neg (by omega)]
    have:=qb (N:=N) (p:=p) (k:=i+1) (xs.take j) (cel p (i+1) (N.fr a)*2+1)
    omega
   obtain⟨A11,n11,K11,l11,H11⟩:=S14.app (s:=cel p (i+1) (N.fr a)*2+1) (by omega) a hz2
   refine⟨A10,n10,K10,h13,y13,h14,s14,A11,n11,K11,l11,λh15 e15=>?_⟩
   obtain⟨A12,n12,K12,h16,y16,h17,s17,S17,m17⟩:=H11 h15 e15
   rw[uS]at S17
   have m917:Mt (λz=>z=h6.next\/h8.next<=z) h9 h17:=m14.then m17
   have htk:xs.take (j+1)=xs.take j ++ [a]:=by rw[List.take_add_one,ha];rfl
   refine⟨A12,n12,K12,h16,y16,h17,s17,_,wj,n8 - (j+1),by omega,j+1,rfl,by omega,rfl,m917.is_nw k9 λz hz=>by omega,by rw[htk];exact S17,s9.off m917 λz hz h=>by omega⟩
  ·obtain rfl:j=n8:=by omega
   rw[List.take_of_length_le (by omega)]at S9
   have z9:=k9.next
   obtain⟨h18,s18,b18,z18,o18⟩:=aA (v:=.slice (some ⟨h6.next,0,none⟩) (ap p (i+1)) (cx (ap p (i+1)))) (k9.bk (by omega) b5) (o:=0+i) (by simp;omega) rfl
   have m18:Mt (λz=>z=h3.next) h9 h18:=⟨by omega,λz _ hn=>o18 z hn⟩
   have gt:=(S9.gates (K:=cx (ap p (i+1))))
   have eg:((List.range (ap p (i+1))).map λc=>(ints (cv N p (i+1) xs (c*2)),ints (cv N p (i+1) xs (c*2+1))))=N.gatesL p (i+1):=by
    unfold ab.gatesL
    apply List.map_congr_left
    intro c _
    rw[<-hxs,xL,uT]
   rw[eg]at gt
   have hs9:=S9.pos
   refine⟨by omega,h18,s18,_,wi,n - (i+1),by omega,i+1,upd B i h6.next,rfl,by omega,rfl,m18.is_nw (k5.trans k9) λz hz=>by omega,by omega,?_,λk hk=>?_⟩
   ·rw[Nat.zero_add,nU (by omega)]at b18
    have e:(λk=>if k<i+1 then Value.slice (some ⟨upd B i h6.next k,0,none⟩) (ap p (k+1)) (cx (ap p (k+1))) else .slice none 0 0)=upd (λk=>if k<i then Value.slice (some ⟨B k,0,none⟩) (ap p (k+1)) (cx (ap p (k+1))) else .slice none 0 0) i (.slice (some ⟨h6.next,0,none⟩) (ap p (i+1)) (cx (ap p (i+1)))):=by
     funext k
     unfold upd
     by_cases e:k=i
     ·subst e
      rw[if_pos (by omega),if_pos rfl,if_pos rfl]
     ·rw[if_neg e,if_neg e]
      by_cases e2:k<i
      ·simp only[if_pos e2,if_pos (show k<i+1 by omega)]
      ·simp only[if_neg e2,if_neg (show ¬k<i+1 by omega)]
    rw[e]
    exact b18
   ·unfold upd
    by_cases e:k=i
    ·subst e
     rw[if_pos rfl]
     exact((gt.mono λz hz _=>(by omega:h4.next<=z)).off m18 λz hz e=>by omega)
    ·rw[if_neg e]
     exact((sg5 k (by omega)).nw k9).off m18 λz hz e=>by omega
 ·obtain rfl:i=n:=by omega
  refine hK _ _ _ h5 (Sa.of_bk b5 (by simp[hn]) (by omega) (by omega) λk x hx=>?_) (k1.trans k5)
  have hk:k<i:=by have:=(List.getElem?_eq_some_iff.1 hx).1;simp at this;omega
  have hx':x=N.gatesL p (k+1):=by
   have hk':k<p.length:=by omega
   simp[hk']at hx;exact hx.symm
  subst hx'
  refine⟨some ⟨B k,0,none⟩,ap p (k+1),cx (ap p (k+1)),?_,(sg5 k hk).mono λz hz _=>by omega⟩
  show((((List.range i).map λk=>if k<i then Value.slice (some ⟨B k,0,none⟩) (ap p (k+1)) (cx (ap p (k+1))) else .slice none 0 0).drop (k*1)).take 1)=_
  rw[Nat.mul_one]
  exact cR (by rw[List.getElem?_map,List.getElem?_range hk];simp[hk])
end
end Eva
end
section
open Go Go.RowKit
namespace Eva
structure LS (h0:AH) (C rb sb D db hb hp outs n Kr:Nat) (pre post:List Int) (done:Nat->Option Nat) (sum:Nat) (h:AH) (row:List Int) (q:Nat->Option Nat):Prop where
 nw:Nw h0 h
 lo:h0.next<=C/\h0.next<=rb/\h0.next<=sb/\h0.next<=D/\h0.next<=db/\h0.next<=hb
 lt:C<h.next/\rb<h.next/\sb<h.next/\D<h.next/\db<h.next/\hb<h.next
 ne:C≠rb/\C≠sb/\C≠D/\C≠db/\C≠hb
 cst:Bk h C ((pre ++ row ++ post).map (Value.int .i64)) 2
 len:row.length=outs
 rbx:Bk h rb [.slice (some ⟨C,pre.length,none⟩) outs Kr] 40
 sbx:Bk h sb [.int .i64 (sum:Int)] 2
 dbl:Bk h D (((List.range n).map λa=>(done a).isSome).map Value.bool) 4
 dbx:Bk h db [.slice (some ⟨D,0,none⟩) n (cx n)] 183
 hbx:Bk h hb [.pointer (some ⟨hp,0,none⟩)] 137
 heap:∃S,bh h S hp n q/\(∀b,S b->h0.next+1<=b)/\¬S C/\¬S rb/\¬S sb/\¬S D/\¬S db/\¬S hb
section
variable {h0 h h':AH}{C rb sb D db hb hp outs n Kr:Nat}{pre post:List Int}{done:Nat->Option Nat}{sum:Nat}{row:List Int}{q:Nat->Option Nat}{Q:Value->AH->Prop}
theorem LS.next (L:LS h0 C rb sb D db hb hp outs n Kr pre post done sum h row q) (a:Nw h h'):LS h0 C rb sb D db hb hp outs n Kr pre post done sum h' row q:=by
 obtain⟨S,h1,h2⟩:=L.heap
 obtain⟨l1,l2,l3,l4,l5,l6⟩:=L.lt
 have:=a.next
 exact⟨L.nw.trans a,L.lo,⟨by omega,by omega,by omega,by omega,by omega,by omega⟩,L.ne,a.bk l1 L.cst,L.len,a.bk l2 L.rbx,a.bk l3 L.sbx,a.bk l4 L.dbl,a.bk l5 L.dbx,a.bk l6 L.hbx,S,h1.nw a,h2⟩
theorem zG {b k:Nat}{xs:List Bool}{x:Bool}{t:TypeId}(hb:Bk h b (xs.map Value.bool) t) (hx:xs[k]? = some x):ldC h b (0+k)=some (.bool x):=by
 rw[aP hb,Nat.zero_add]
 simp[hx]
theorem Da {l:List Int}{k:Nat}(hk:k<l.length):l[k]? = some (at_ l k):=by
 unfold at_
 rw[List.getElem?_eq_getElem hk];rfl
theorem D1 {M:Nat}(L:LS h0 C rb sb D db hb hp outs n Kr pre post done sum h row q){s:Stp}(hs:0<=s.2.2/\s.2.2<=M/\(s.2.1<0->0<=s.1/\s.1<n)/\s.2.1<outs) (hM:sum+M<=1152921504606846976) (hC:h0.next≠C)
  (hK:∀h',LS h0 C rb sb D db hb hp outs n Kr pre post done sum h' (eo done sum (row,q) s).1 (eo done sum (row,q) s).2->h'.get h0.next=h.get h0.next->Q (.tuple #[]) h') :
  WC Tryz.prog 223 [.agg #[.int .i64 s.1,.int .i64 s.2.1,.int .i64 s.2.2],.pointer (some ⟨rb,0,none⟩),.pointer (some ⟨sb,0,none⟩),.pointer (some ⟨db,0,none⟩),.pointer (some ⟨hb,0,none⟩)] h Q:=by
 obtain⟨s1,s2,s3⟩:=s
 simp only at hs
 obtain⟨c0,c1,ct,co⟩:=hs
 have hlt0:h0.next<h.next:=by have:=L.lo;have:=L.lt;omega
 refine gY λh1 e1=>?_
 obtain⟨k1,g1,z1⟩:=aj e1
 have L1:=L.next k1
 have y0:ldC h1 h.next 0=some (.int .i64 s1):=aa g1 rfl
 have y1:ldC h1 h.next 1=some (.int .i64 s2):=aa g1 rfl
 have y2:ldC h1 h.next 2=some (.int .i64 s3):=aa g1 rfl
 have r0:ldC h1 rb 0=some (.slice (some ⟨C,pre.length,none⟩) outs Kr):=aa L1.rbx rfl
 have t0:ldC h1 sb 0=some (.int .i64 (sum:Int)):=aa L1.sbx rfl
 have d0:ldC h1 db 0=some (.slice (some ⟨D,0,none⟩) n (cx n)):=aa L1.dbx rfl
 have p0:ldC h1 hb 0=some (.pointer (some ⟨hp,0,none⟩)):=aa L1.hbx rfl
 have w1:IntKind.i64.wrap ((sum:Int)+s3)=(sum:Int)+s3:=ah (by omega) (by omega)
 obtain⟨l1,l2,l3,l4,l5,l6⟩:=L1.lt
 obtain⟨n1,n2,n3,n4,n5⟩:=L1.ne
 refine⟨_,y1,λho=>?_,λho=>?_⟩
 ·obtain⟨o,rfl⟩:=Int.eq_ofNat_of_zero_le ho
  have hlt:o<outs:=by omega
  have hrow:=L1.len
  have x7:ldC h1 C (pre.length+o)=some (.int .i64 (at_ row o)):=by
   rw[aP L1.cst,List.map_append,List.map_append,List.append_assoc,List.getElem?_append_right (by simp),List.length_map,Nat.add_sub_cancel_left,List.getElem?_append_left (by simp;omega),List.getElem?_map,Da (by omega)]
   rfl
  have hmin:(if((sum:Int)+s3)<at_ row o then(sum:Int)+s3 else at_ row o)=min (at_ row o) (sum+s3):=by
   rw[Int.min_def]
   split <;>split <;>omega
  obtain⟨h2,q1,q2,q3,q4⟩:=aA (v:=.int .i64 (min (at_ row o) (sum+s3))) L1.cst (o:=pre.length+o) (by simp;omega) rfl
  refine⟨_,_,rfl,_,_,_,r0,_,y1,_,_,_,r0,_,y1,o,rfl,_,_,rfl,hlt,_,x7,_,_,rfl,_,t0,_,y2,_,w1,_,hmin,o,rfl,_,_,rfl,hlt,h2,q1,hK h2 ?_ ((q4 _ hC).trans (k1.get _ hlt0))⟩
  have hst:eo done sum (row,q) ((s1,(o:Int),s3):Stp)=(row.set o (min (at_ row o) (sum+s3)),q):=by
   rw[eo,if_pos (by exact Int.natCast_nonneg o)]
   rfl
  obtain⟨S,p1,p2,p3,p4⟩:=L1.heap
  rw[hst]
  refine⟨⟨by have:=L1.nw.next;omega,λb hb=>(q4 b (by have:=L1.lo.1;omega)).trans (L1.nw.get b hb)⟩,L1.lo,⟨by omega,by omega,by omega,by omega,by omega,by omega⟩,L1.ne,?_,by simp[hrow],(q4 _ (Ne.symm n1)).trans L1.rbx,(q4 _ (Ne.symm n2)).trans L1.sbx,(q4 _ (Ne.symm n3)).trans L1.dbl,(q4 _ (Ne.symm n4)).trans L1.dbx,(q4 _ (Ne.symm n5)).trans L1.hbx,S,p1.off (S':=λb=>b=C) ⟨by omega,λb _ hb=>q4 b hb⟩ (λb hb e=>p3 (e ▸ hb)),p2,p3,p4⟩
  rw[<-List.map_set]at q2
  rw[List.append_assoc,List.set_append_right _ _ (by omega),Nat.add_sub_cancel_left,List.set_append_left _ _ (by omega),<-List.append_assoc]at q2
  exact q2
 ·obtain⟨ht0,ht1⟩:=ct (by omega)
  obtain⟨r,rfl⟩:=Int.eq_ofNat_of_zero_le ht0
  have hrn:r<n:=by omega
  have hst:eo done sum (row,q) ((((r:Nat):Int),s2,s3):Stp)=if done r=none then(row,ia q r (sum+s3.toNat)) else(row,q):=by
   rw[eo,if_neg ho]
   simp only[Int.toNat_natCast]
  have hd:ldC h1 D (0+r)=some (.bool (done r).isSome):=zG L1.dbl (by simp[hrn])
  refine⟨_,_,rfl,_,_,_,d0,_,y0,r,rfl,_,_,rfl,hrn,_,hd,λhb=>?_,λhb=>?_⟩
  ·refine hK h1 ?_ (k1.get _ hlt0)
   rw[hst,if_neg (by intro e;rw[e]at hb;cases hb)]
   exact L1
  ·have hdn:done r=none:=by cases hdr:done r with | none=>rfl | some x=>rw[hdr]at hb;cases hb
   obtain⟨S,p1,p2,p3,p4,p5,p6,p7,p8⟩:=L1.heap
   refine⟨_,_,rfl,_,p0,_,y0,_,_,rfl,_,t0,_,y2,_,w1,Bn p1 hrn (by omega) (by omega) λh2 S' H2 m2 g2=>⟨_,rfl,hK h2 ?_ ((m2.get _ (by omega) (λhs=>by have:=p2 _ hs;omega)).trans (k1.get _ hlt0))⟩⟩
   rw[hst,if_pos hdn]
   have hz:((sum:Int)+s3).toNat=sum+s3.toNat:=by omega
   rw[hz]at H2
   have hm:=m2.next
   have notS:∀{b},b<h1.next->¬S b->¬S' b:=λhb hn hs=>(g2 _ hs).elim hn (λh=>by omega)
   exact⟨⟨by have:=L1.nw.next;omega,λb hb=>(m2.get b (by have:=L1.nw.next;omega) (λhs=>by have:=p2 b hs;omega)).trans (L1.nw.get b hb)⟩,L1.lo,⟨by omega,by omega,by omega,by omega,by omega,by omega⟩,L1.ne,m2.bk l1 p3 L1.cst,L1.len,m2.bk l2 p4 L1.rbx,m2.bk l3 p5 L1.sbx,m2.bk l4 p6 L1.dbl,m2.bk l5 p7 L1.dbx,m2.bk l6 p8 L1.hbx,S',H2,λb hb=>(g2 b hb).elim (p2 b) (λh=>by have:=L.nw.next;omega),notS l1 p3,notS l2 p4,notS l3 p5,notS l4 p6,notS l5 p7,notS l6 p8⟩
end
def jx (h0:AH) (g:Nat) (fb:Array Value) (n:Nat) (steps:Nat->List Stp):Prop:=
 eZ Tryz.prog g=true/\∀a,a<n->∀(h:AH) (tg:Nat) (tfb:Array Value) (J:Nat->AH->Prop) (Q:Value->AH->Prop),(∀k h1,J k h1->Nw h0 h1)->(∀k h1 h2,J k h1->Nw h1 h2->J k h2)->eZ Tryz.prog tg=true->
  (∀k s h1 (Q':Value->AH->Prop),J k h1->(steps a)[k]? = some s->(∀h2,J (k+1) h2->Q' (.tuple #[]) h2)->WC Tryz.prog tg ([.agg #[.int .i64 s.1,.int .i64 s.2.1,.int .i64 s.2.2]] ++ tfb.toList) h1 Q')->
  J 0 h->(∀h',J (steps a).length h'->Q (.tuple #[]) h')->WC Tryz.prog g ([.int .i64 (a:Int),.func (.func tg) #[] tfb] ++ fb.toList) h Q
end Eva
end
section
open Go Go.RowKit
namespace Eva
theorem wg {P:Program}{e C n lo hi:Nat}(hT:∃i,P.info? e=some i/\i.size=1) (h1:lo<=hi) (h2:hi<=n) (h3:lo<n\/lo=0):aE P e (some ⟨C,0,none⟩) n (cx n) (some lo) (some hi) none=some (.slice (some ⟨C,lo,none⟩) (hi - lo) (cx (n - lo))):=by
 obtain⟨i,hi',hsz⟩:=hT
 unfold aE
 rw[hi']
 have hc2:(cx n) / 2=n:=by unfold cx;omega
 have hp:Nat.beq ((cx n) % 2) 0=true:=by
  have:(cx n) % 2=0:=by unfold cx;omega
  rw[this];rfl
 have hb1:Nat.ble hi ((cx n) / 2)=true:=Nat.ble_eq_true_of_le (by omega)
 have hb0:Nat.ble lo hi=true:=Nat.ble_eq_true_of_le h1
 show cond (Option.isNone (none:Option Nat) || Option.isSome (some hi)) (cw i.size (some ⟨C,0,none⟩) n (cx n) ((some lo).getD 0) (some hi) none) none=_
 simp only[Option.isNone_none,Bool.true_or,cond_true,Option.getD_some]
 unfold cw
 simp only[Option.getD_some,hb1,hb0,Bool.and_self,cond_true,hp]
 unfold mi mh
 rw[hc2,hsz,Nat.mul_one]
 rcases h3 with h3 | h3
 ·have hne:Nat.beq n lo=false:=by
   cases hb:Nat.beq n lo with
   | false=>rfl
   | true=>have:=aq hb;omega
  rw[hne]
  simp only[cond_false,Option.map_some]
  unfold Addr.add
  split
  ·rename_i h0;rw[h0]
  ·simp
 ·subst h3
  cases Nat.beq n 0 <;>rfl
theorem D7:tyB Tryz.prog 2 1 8=true:=by kernel_rfl
structure LS0 (h0:AH) (C rb D db hb hp outs n Kr:Nat) (pre post:List Int) (done:Nat->Option Nat) (h:AH) (row:List Int) (q:Nat->Option Nat):Prop where
 nw:Nw h0 h
 lo:h0.next<=C/\h0.next<=rb/\h0.next<=D/\h0.next<=db/\h0.next<=hb
 lt:C<h.next/\rb<h.next/\D<h.next/\db<h.next/\hb<h.next
 ne:C≠rb/\C≠D/\C≠db/\C≠hb/\D≠rb/\D≠db/\D≠hb
 cst:Bk h C ((pre ++ row ++ post).map (Value.int .i64)) 2
 len:row.length=outs
 rbx:Bk h rb [.slice (some ⟨C,pre.length,none⟩) outs Kr] 40
 dbl:Bk h D (((List.range n).map λa=>(done a).isSome).map Value.bool) 4
 dbx:Bk h db [.slice (some ⟨D,0,none⟩) n (cx n)] 183
 hbx:Bk h hb [.pointer (some ⟨hp,0,none⟩)] 137
 heap:∃S,bh h S hp n q/\(∀b,S b->h0.next+1<=b)/\¬S C/\¬S rb/\¬S D/\¬S db/\¬S hb/\∀b,S b->b<h.next
def eA (done:Nat->Option Nat) (n:Nat):Nat:=((List.range n).filter λa=>(done a).isSome).length
theorem rz (done:Nat->Option Nat) (n:Nat):eA done n<=n:=Nat.le_trans (List.length_filter_le _ _) (by simp)
theorem ik {done:Nat->Option Nat}{k c:Nat}(hd:done k=none):∀n,k<n->eA (upd done k (some c)) n=eA done n+1
 | 0,h=>by omega
 | n+1,h=>by
  unfold eA
  rw[List.range_succ,List.filter_append,List.filter_append,List.length_append,List.length_append]
  by_cases e:k=n
  ·subst e
   have h1:∀a∈List.range k,((upd done k (some c)) a).isSome=(done a).isSome:=λa ha=>by
    have:a≠k:=by simp at ha;omega
    simp[upd,this]
   rw[List.filter_congr h1]
   simp[upd,hd]
  ·have ih:=ik (c:=c) hd n (by omega)
   unfold eA at ih
   rw[ih]
   have:(upd done k (some c)) n=done n:=by simp[upd,Ne.symm e]
   simp only[List.filter_cons,List.filter_nil,this]
   omega
theorem wh {done:Nat->Option Nat}{k:Nat}(hd:done k=none){n:Nat}(hk:k<n):eA done n<n:=by
 have h1:=ik (c:=0) hd n hk
 have h2:=rz (upd done k (some 0)) n
 omega
section
variable {h:AH}{Q:Value->AH->Prop}{F:Nat->Prop}{A:Option Addr}{m K g outs n M:Nat}{fb:Array Value}{starts:List Nat}{steps:Nat->List Stp}
theorem LS0.keep1 {h0 h':AH}{C rb D db hb hp Kr:Nat}{pre post row:List Int}{done q:Nat->Option Nat}(L:LS0 h0 C rb D db hb hp outs n Kr pre post done h row q) (a:Nw h h'):LS0 h0 C rb D db hb hp outs n Kr pre post done h' row q:=by
 obtain⟨S,h1,h2,h3,h4,h5,h6,h7,h8⟩:=L.heap
 obtain⟨l1,l2,l3,l4,l5⟩:=L.lt
 have:=a.next
 exact⟨L.nw.trans a,L.lo,⟨by omega,by omega,by omega,by omega,by omega⟩,L.ne,a.bk l1 L.cst,L.len,a.bk l2 L.rbx,a.bk l3 L.dbl,a.bk l4 L.dbx,a.bk l5 L.hbx,S,h1.nw a,h2,h3,h4,h5,h6,h7,λb hb=>by have:=h8 b hb;omega⟩
theorem Db {q0 k c:Nat}{row:List Int}{done q:Nat->Option Nat}(hF:iU n outs M steps) (hM:M*(n+1)<1152921504606846976)
  (hd:Dij aM (eF steps) q0 done (gG aM q)) (hr:ep outs steps done row) (hf:Few M (eA done n) q) (hk:q k=some c) (hkn:k<n) (hm:∀b c',q b=some c'->c<=c') :
  done k=none/\c+M<=1152921504606846976/\Dij aM (eF steps) q0 (upd done k (some c)) (gG aM (dh (upd done k (some c)) c (steps k) (row,del q k)).2)/\ep outs steps (upd done k (some c)) (dh (upd done k (some c)) c (steps k) (row,del q k)).1/\
   Few M (eA (upd done k (some c)) n) (dh (upd done k (some c)) c (steps k) (row,del q k)).2:=by
 have hcM:=hf k c hk
 have hmul:M*eA done n<=M*n:=Nat.mul_le_mul_left _ (rz _ _)
 have hmul2:M*(n+1)=M*n+M:=by rw[Nat.mul_succ]
 have hcI:c<aM:=by unfold aM;omega
 have hdn:done k=none:=(hd.wait k c (bL.2 ⟨hk,hcI⟩)).2.2
 have hl:∀b y,(b,y)∈(em (steps k)).map (λx=>(x.1,c+x.2))->y<=c+M:=λb y hb=>by
  obtain⟨⟨r,x⟩,hx,he⟩:=List.mem_map.1 hb
  injection he with e1 e2
  have:=(hF.inn k r x hkn hx).2
  omega
 refine⟨hdn,by omega,?_,hr.round hF hkn hdn,?_⟩
 ·rw[jZ _ _ k _ _ _ (λ_=>0)]
  refine hd.round hk hcI hm _ (λb x hb he hx hdb=>?_) (λb y hb hy=>?_)
  ·exact List.mem_map.2 ⟨(b,x),rg he,rfl⟩
  ·obtain⟨⟨r,x⟩,hx,he⟩:=List.mem_map.1 hb
   injection he with e1 e2
   subst e1
   exact⟨x,hF.get hkn hx,e2.symm⟩
 ·rw[jZ _ _ k _ _ _ (λ_=>0),ik hdn n hkn]
  exact hf.round hk hl
theorem xM {done:Nat->Option Nat}{sum:Nat}{l:List Stp}{k:Nat}{s:Stp}(hs:l[k]? = some s) (st:List Int×(Nat->Option Nat)):dh done sum (l.take (k+1)) st=eo done sum (dh done sum (l.take k) st) s:=by
 unfold dh
 rw[List.take_add_one,hs,List.foldl_append]
 rfl
end
end Eva
end
section
open Go Go.RowKit
namespace Eva
theorem Bx (i T:Nat) (x y:Int) (hi:i<T):(List.replicate i x ++ List.replicate (T - i) y).set i x=List.replicate (i+1) x ++ List.replicate (T - (i+1)) y:=by
 rw[List.set_append_right _ _ (by simp),List.length_replicate,Nat.sub_self,show T - i=(T - (i+1))+1 by omega,List.replicate_succ,List.set_cons_zero,List.replicate_succ',List.append_assoc]
 rfl
theorem By {done:Nat->Option Nat}{k c n:Nat}(hk:k<n):((List.range n).map λa=>(done a).isSome).set k true=(List.range n).map λa=>(upd done k (some c) a).isSome:=by
 apply List.ext_getElem?
 intro i
 rw[List.getElem?_set]
 by_cases e:k=i
 ·subst e
  simp[hk,upd]
 ·simp only[if_neg e,List.getElem?_map]
  by_cases hi:i<n
  ·simp[List.getElem?_range hi,upd,Ne.symm e]
  ·rw[List.getElem?_eq_none (by simpa using hi)];rfl
theorem od (st:Nat):gG aM (λb=>if b=st then some 0 else none)=λb=>if b=st then some 0 else none:=by
 funext b
 unfold gG
 by_cases h:b=st
 ·simp[h,aM]
 ·simp[h]
structure LA (h0:AH) (C hb hp n outs m:Nat) (fl:List Value) (starts:List Nat) (steps:Nat->List Stp) (i:Nat) (h:AH) (pre:List Int):Prop where
 nw:Nw h0 h
 cst:Bk h C ((pre ++ List.replicate ((m - i)*outs) INF).map (Value.int .i64)) 2
 len:pre.length=i*outs
 fld:Bk h h0.next fl 277
 hbx:Bk h hb [.pointer (some ⟨hp,0,none⟩)] 137
 lt:h0.next<C/\C<hb/\hb<h.next
 heap:∃S q,bh h S hp n q/\(∀b,S b->h0.next+1<=b)/\¬S C/\¬S hb/\∀b,S b->b<h.next
 rows:∀j st,j<i->starts[j]? = some st->pO outs steps st ((pre.drop (j*outs)).take outs)
section
variable {h:AH}{Q:Value->AH->Prop}{F:Nat->Prop}{A:Option Addr}{m K g outs n M:Nat}{fb:Array Value}{starts:List Nat}{steps:Nat->List Stp}
theorem zH (hst:Sa cI F h A m K (ints starts)) (hF:iU n outs M steps) (hM:M*(n+1)<1152921504606846976) (hn:n<=16384) (hm:m<=16384) (hmo:m*outs<100000) (hs:∀s∈starts,s<n) (hN:jx h g fb n steps)
  (hK:∀(C:Nat) (costs:List Int) (h':AH),Bk h' C (costs.map (Value.int .i64)) 2->h.next<=C->C<h'.next->costs.length=m*outs->(∀i st,starts[i]? = some st->pO outs steps st ((costs.drop (i*outs)).take outs))->Nw h h'->Q (.slice (some ⟨C,0,none⟩) (m*outs) (cx (m*outs))) h') :
  WC Tryz.prog 153 [.agg #[.int .i64 n,.slice A m K,.func (.func g) #[] fb],.int .i64 outs] h Q:=by
 have hml:starts.length=m:=by simpa[ints]using hst.len
 obtain⟨T,hT⟩:∃T,m*outs=T:=⟨_,rfl⟩
 refine jl λh1 e1=>?_
 obtain⟨k1,g1,z1⟩:=aj e1
 have y1:ldC h1 h.next 1=some (.slice A m K):=aa g1 rfl
 have wmo:IntKind.i64.wrap ((m:Int)*(outs:Int))=(T:Int):=by rw[<-Int.natCast_mul,hT];exact ah (by omega) (by omega)
 refine⟨A,m,K,y1,_,wmo,T,rfl,by omega,λh2 e2=>?_⟩
 obtain⟨k2,g2,z2⟩:=aj e2
 rw[a9]at g2
 refine⟨λmm x h3=>∃i:Nat,x=i/\i<=T/\mm=T - i/\Bk h3 h1.next ((List.replicate i INF ++ List.replicate (T - i) 0).map (Value.int .i64)) 2/\h3.next=h2.next/\∀b,b≠h1.next->h3.get b=h2.get b,T,⟨0,rfl,Nat.zero_le _,rfl,by simpa using g2,rfl,λ_ _=>rfl⟩,?_⟩
 rintro mm x h3 ⟨i,rfl,hi,rfl,b3,z3,o3⟩
 refine⟨λhlt=>?_,λhge=>?_⟩
 ·obtain⟨h4,s4,b4,z4,o4⟩:=cH b3 (k:=i) (by simp;omega) INF
  rw[Bx i T INF 0 (by omega)]at b4
  exact⟨i,rfl,by omega,h4,s4,_,ah (by omega) (by omega),T - (i+1),by omega,i+1,by omega,by omega,rfl,b4,by omega,λb hb=>(o4 b hb).trans (o3 b hb)⟩
 obtain rfl:T=i:=by omega
 rw[Nat.sub_self,List.replicate_zero,List.append_nil]at b3
 have f3:Bk h3 h.next [.int .i64 n,.slice A m K,.func (.func g) #[] fb] 277:=(o3 _ (by omega)).trans (k2.bk (by omega) g1)
 have k3:Nw h h3:=⟨by omega,λb hb=>(o3 b (by omega)).trans ((k1.trans k2).get b hb)⟩
 refine⟨_,aa f3 rfl,DQ n hn λh5 S5 hp H5 k5 hS5=>⟨_,rfl,λh6 e6=>?_⟩⟩
 obtain⟨h7,s7,k7,g7,z7⟩:=ay (vs:=[.pointer (some ⟨hp,0,none⟩)]) e6 rfl (by simp[flat])
 have hz5:=k5.next
 have hz7:=k7.next
 have f7:=(k5.trans k7).bk (by omega) f3
 refine⟨h7,s7,A,m,K,aa f7 rfl,λmm x h8=>∃(i:Nat) (pre:List Int),x=i/\i<=m/\mm=m - i/\LA h h1.next h5.next hp n outs m [.int .i64 n,.slice A m K,.func (.func g) #[] fb] starts steps i h8 pre,m,⟨0,[],rfl,Nat.zero_le _,rfl,(k3.trans k5).trans k7,?_,by simp,f7,g7,by omega,⟨S5,_,H5.nw k7,λb hb=>by have:=hS5 b hb;omega,λhs=>by have:=hS5 _ hs;omega,λhs=>?_,λb hb=>?_⟩,λj st hj=>absurd hj (Nat.not_lt_zero _)⟩,?_⟩
 ·have:=(k5.trans k7).bk (by omega) b3
  simpa[hT]using this
 ·obtain⟨row,costs,A',K',Bc,Bs,seats,-,-,-,q4⟩:=H5
  have:=q4 _ hs
  omega
 ·obtain⟨row,costs,A',K',Bc,Bs,seats,-,-,-,q4⟩:=H5
  have:=q4 _ hb
  omega
 rintro mm x h8 ⟨i,pre,rfl,him,rfl,L⟩
 refine⟨λhlt=>?_,λhge=>?_⟩
 rotate_left
 ·obtain rfl:i=m:=by omega
  have hc:=L.cst
  rw[Nat.sub_self,Nat.zero_mul,List.replicate_zero,List.append_nil]at hc
  have:=hK h1.next pre h8 hc (by omega) (by have:=L.lt;omega) L.len (λj st hj=>L.rows j st (by have:=(List.getElem?_eq_some_iff.1 hj).1;omega) hj) L.nw
  rwa [hT]at this
 have hil:i<m:=by omega
 obtain⟨bA,oA,xs,rfl,-,hbA,hxs,exs⟩:=(hst.nw L.nw).int (k:=i) hil
 obtain⟨st,hst1⟩:∃st,starts[i]? = some st:=⟨_,List.getElem?_eq_getElem (by omega)⟩
 have hxst:xs=(st:Int):=by simp[ints,hst1]at hxs;exact hxs.symm
 subst hxst
 have hstn:=hs st (List.mem_of_getElem? hst1)
 obtain⟨lo,hlo⟩:∃lo,i*outs=lo:=⟨_,rfl⟩
 have hhi:(i+1)*outs=lo+outs:=by rw[Nat.succ_mul,hlo]
 have hle:(i+1)*outs<=m*outs:=Nat.mul_le_mul_right _ hil
 have wlo:IntKind.i64.wrap ((i:Int)*(outs:Int))=(lo:Int):=by rw[<-Int.natCast_mul,hlo];exact ah (by omega) (by omega)
 have whi:IntKind.i64.wrap (((i+1:Nat):Int)*(outs:Int))=((lo+outs:Nat):Int):=by rw[<-Int.natCast_mul,hhi];exact ah (by omega) (by omega)
 have hi1:IntKind.i64.wrap ((i:Int)+1)=((i+1:Nat):Int):=by rw[Int.natCast_succ];exact ah (by omega) (by omega)
 have hsl:=wg (P:=Tryz.prog) (e:=2) (C:=h1.next) (n:=T) (lo:=lo) (hi:=lo+outs) (by obtain⟨q,q1,q2,-⟩:=bi D7;exact⟨q,q1,q2⟩) (by omega) (by omega) (by
  rcases Nat.eq_zero_or_pos outs with h0 | h0
  ·right;rw[<-hlo,h0,Nat.mul_zero]
  ·left;omega)
 rw[Nat.add_sub_cancel_left]at hsl
 refine⟨i,rfl,bA,oA,rfl,hil,_,exs,_,wlo,_,hi1,_,whi,lo,rfl,lo+outs,rfl,_,_,_,hsl,λh9 e9=>?_⟩
 obtain⟨h10,s10,k10,g10,z10⟩:=ay (vs:=[.slice (some ⟨h1.next,lo,none⟩) outs (cx (T - lo))]) e9 rfl (by simp[flat])
 obtain⟨l1,l2,l3⟩:=L.lt
 have f10:=k10.bk (by omega) L.fld
 refine⟨h10,s10,_,aa f10 rfl,n,rfl,by omega,λh11 e11 h12 e12=>?_⟩
 obtain⟨k11,g11,z11⟩:=aj e11
 rw[a9]at g11
 obtain⟨h13,s13,k13,g13,z13⟩:=ay (vs:=[.slice (some ⟨h10.next,0,none⟩) n (cx n)]) e12 rfl (by simp[flat])
 have k813:Nw h8 h13:=(k10.trans k11).trans k13
 obtain⟨S8,q8,H8,hS1,hS2,hS3,hS4⟩:=L.heap
 refine⟨h13,s13,_,aa (k813.bk (by omega) L.hbx) rfl,zA (H8.nw k813) λh14 H14 m14 z14=>⟨rfl,?_⟩⟩
 have nS:∀{b},h8.next<=b->¬S8 b:=λhb hs=>by have:=hS4 _ hs;omega
 have hb14:Bk h14 h5.next [.pointer (some ⟨hp,0,none⟩)] 137:=m14.bk (by omega) hS3 (k813.bk (by omega) L.hbx)
 refine⟨_,aa hb14 rfl,Bn H14 hstn (Int.le_refl _) (by omega) λh15 S15 H15 m15 g15=>⟨_,rfl,?_⟩⟩
 have z15:=m15.next
 have nS15:∀{b},b<h14.next->¬S8 b->¬S15 b:=λhb hn hs=>(g15 _ hs).elim hn (λh=>by omega)
 have mm15:Mt S8 h13 h15:=m14.trans m15 λb hb _=>hb
 have hpl:pre.length=lo:=L.len.trans hlo
 have hrep:List.replicate ((m - i)*outs) INF=List.replicate outs INF ++ List.replicate ((m - (i+1))*outs) INF:=by
  rw[List.replicate_append_replicate,show(m - i)*outs=outs+(m - (i+1))*outs from by rw[show m - i=(m - (i+1))+1 by omega,Nat.succ_mul,Nat.add_comm]]
 have f15:Bk h15 h.next [.int .i64 n,.slice (some ⟨bA,oA,none⟩) m K,.func (.func g) #[] fb] 277:=mm15.bk (by omega) (λhs=>by have:=hS1 _ hs;omega) (k813.bk (by omega) L.fld)
 have LL:LS0 h h1.next h8.next h10.next h11.next h5.next hp outs n (cx (T - lo)) pre (List.replicate ((m - (i+1))*outs) INF) (λ_=>none) h15 (List.replicate outs INF) (λb=>if b=st then some 0 else none):=by
  refine⟨⟨by have:=L.nw.next;omega,λb hb=>(mm15.get b (by omega) (λhs=>by have:=hS1 _ hs;omega)).trans ((k813.get b (by omega)).trans (L.nw.get b hb))⟩,by omega,by omega,by omega,?_,by simp,?_,?_,?_,m15.bk (by omega) hS3 hb14,⟨S15,H15,λb hb=>(g15 b hb).elim (hS1 b) (λh=>by omega),nS15 (by omega) hS2,nS15 (by omega) (nS (by omega)),nS15 (by omega) (nS (by omega)),nS15 (by omega) (nS (by omega)),nS15 (by omega) hS3,λb hb=>?_⟩⟩
  ·have:=mm15.bk (by omega) hS2 (k813.bk (by omega) L.cst)
   rwa [hrep,<-List.append_assoc]at this
  ·have:=mm15.bk (by omega) (nS (by omega)) ((k11.trans k13).bk (by omega) g10)
   rwa [hpl]
  ·have:=mm15.bk (by omega) (nS (by omega)) (k13.bk (by omega) g11)
   have e:(List.range n).map (λa=>((λ_=>none:Nat->Option Nat) a).isSome)=List.replicate n false:=by
    show(List.range n).map (λ_=>false)=_
    rw[List.map_const',List.length_range]
   rw[e,List.map_replicate]
   exact this
  ·exact mm15.bk (by omega) (nS (by omega)) g13
  ·rcases g15 b hb with h | h
   ·have:=hS4 b h;omega
   ·omega
 refine⟨λmm h16=>∃(done q:Nat->Option Nat) (row:List Int),mm=n - eA done n/\LS0 h h1.next h8.next h10.next h11.next h5.next hp outs n (cx (T - lo)) pre (List.replicate ((m - (i+1))*outs) INF) done h16 row q/\Dij aM (eF steps) st done (gG aM q)/\ep outs steps done row/\Few M (eA done n) q/\Bk h16 h.next [.int .i64 n,.slice (some ⟨bA,oA,none⟩) m K,.func (.func g) #[] fb] 277,n,⟨_,_,_,?_,LL,?_,ep.start _ _,λb c hb=>?_,f15⟩,?_⟩
 ·have:eA (λ_=>none) n=0:=by simp[eA]
  rw[this];rfl
 ·rw[od]
  exact Dij.new (by unfold aM;omega)
 ·by_cases e:b=st
  ·simp[e]at hb;omega
  ·simp[e]at hb
 rintro mm h16 ⟨done,q,row,rfl,L16,hD,hR,hFw,f16⟩
 obtain⟨S16,H16,c1,c2,c3,c4,c5,c6,c7⟩:=L16.heap
 obtain⟨a1,a2,a3,a4,a5⟩:=L16.lt
 obtain⟨n1,n2,n3,n4,n5,n6,n7⟩:=L16.ne
 refine⟨_,aa L16.hbx rfl,DR H16 (λhq=>?_) (λk c h17 hkN hqk hmin H17 m17 z17=>?_)⟩
 ·
  refine⟨_,_,_,rfl,λh=>Bool.noConfusion h,λ_ h22 e22=>?_⟩
  obtain⟨h23,s23,k23,g23,z23⟩:=ay (vs:=[.int .i64 0]) e22 rfl (by simp[flat])
  have hq0:∀b,gG aM q b=none:=λb=>by unfold gG;rw[hq b]
  have hrow:=hR.done hD hq0
  refine⟨h23,s23,_,hi1,m - (i+1),by omega,i+1,pre ++ row,rfl,hil,rfl,?_⟩
  have L23:=L16.keep1 k23
  refine⟨L23.nw,?_,by rw[List.length_append,hpl,L16.len,hhi],k23.bk (by omega) f16,L23.hbx,by omega,⟨S16,q,H16.nw k23,c1,c2,c6,λb hb=>by have:=c7 b hb;omega⟩,λj sj hj hsj=>?_⟩
  ·have:=L23.cst
   simpa only[List.append_assoc]using this
  ·by_cases e:j=i
   ·subst e
    obtain rfl:st=sj:=Option.some.inj (hst1.symm.trans hsj)
    have e1:((pre ++ row).drop (j*outs)).take outs=row:=by
     rw[show j*outs=pre.length from hlo.trans hpl.symm,List.drop_left]
     exact List.take_of_length_le (Nat.le_of_eq L16.len)
    rw[e1]
    exact hrow
   ·have h9:=L.rows j sj (by omega) hsj
    have h10:(j+1)*outs<=i*outs:=Nat.mul_le_mul_right _ (by omega)
    rw[Nat.succ_mul]at h10
    rw[List.drop_append_of_le_length (by rw[hpl];omega),List.take_append_of_le_length (by rw[List.length_drop,hpl];omega)]
    exact h9
 ·
  refine⟨_,_,_,rfl,λ_ h18 e18=>?_,λh=>Bool.noConfusion h⟩
  obtain⟨h19,s19,k19,g19,z19⟩:=ay (vs:=[.int .i64 c]) e18 rfl (by simp[flat])
  obtain⟨r1,r2,r3,r4,r5⟩:=Db hF hM hD hR hFw hqk hkN hmin
  have d19:Bk h19 h11.next [.slice (some ⟨h10.next,0,none⟩) n (cx n)] 183:=k19.bk (by omega) (m17.bk a4 c5 L16.dbx)
  have D19:=k19.bk (by omega) (m17.bk a3 c4 L16.dbl)
  obtain⟨h20,s20,b20,z20,o20⟩:=aA (v:=.bool true) D19 (o:=0+k) (by simpa using hkN) rfl
  rw[Nat.zero_add,<-List.map_set,By (c:=c) hkN]at b20
  have f20:Bk h20 h.next [.int .i64 n,.slice (some ⟨bA,oA,none⟩) m K,.func (.func g) #[] fb] 277:=(o20 _ (by omega)).trans (k19.bk (by omega) (m17.bk (by omega) (λhs=>by have:=c1 _ hs;omega) f16))
  refine⟨h19,s19,_,_,_,aa d19 rfl,k,rfl,_,_,rfl,hkN,h20,s20,g,fb,aa f20 rfl,hN.1,?_⟩
  have nw20:Nw h h20:=⟨by have:=L16.nw.next;omega,λb hb=>(o20 b (by omega)).trans ((k19.get b (by have:=L16.nw.next;omega)).trans ((m17.get b (by have:=L16.nw.next;omega) (λhs=>by have:=c1 _ hs;omega)).trans (L16.nw.get b hb)))⟩
  have bk20:∀{b:Nat}{cs:List Value}{t:TypeId},b<h16.next->¬S16 b->b≠h10.next->Bk h16 b cs t->Bk h20 b cs t:=λhb hn hne hk=>(o20 _ hne).trans (k19.bk (by omega) (m17.bk hb hn hk))
  have LS20:LS h h1.next h8.next h17.next h10.next h11.next h5.next hp outs n (cx (T - lo)) pre (List.replicate ((m - (i+1))*outs) INF) (upd done k (some c)) c h20 row (del q k):=by
   refine⟨nw20,by have:=L16.nw.next;omega,by omega,by omega,bk20 a1 c2 n2 L16.cst,L16.len,bk20 a2 c3 (by omega) L16.rbx,(o20 _ (by omega)).trans g19,b20,bk20 a4 c5 (by omega) L16.dbx,bk20 a5 c6 (by omega) L16.hbx,⟨S16,(H17.nw k19).off (S':=λb=>b=h10.next) ⟨by omega,λb _ hb=>o20 b hb⟩ (λb hb e=>c4 (e ▸ hb)),c1,c2,c3,λhs=>by have:=c7 _ hs;omega,c4,c5,c6⟩⟩
  refine hN.2 k hkN h20 223 #[.pointer (some ⟨h8.next,0,none⟩),.pointer (some ⟨h17.next,0,none⟩),.pointer (some ⟨h11.next,0,none⟩),.pointer (some ⟨h5.next,0,none⟩)]
   (λj h'=>LS h h1.next h8.next h17.next h10.next h11.next h5.next hp outs n (cx (T - lo)) pre (List.replicate ((m - (i+1))*outs) INF) (upd done k (some c)) c h' (dh (upd done k (some c)) c ((steps k).take j) (row,del q k)).1 (dh (upd done k (some c)) c ((steps k).take j) (row,del q k)).2/\Bk h' h.next [.int .i64 n,.slice (some ⟨bA,oA,none⟩) m K,.func (.func g) #[] fb] 277) _
   (λj h' hj=>hj.1.nw) (λj h' h'' hj hw=>⟨hj.1.next hw,hw.bk (by have:=hj.1.nw.next;have:=hj.1.lt;have:=hj.1.lo;omega) hj.2⟩) (by kernel_rfl) (λj s h' Q' hj hsj hQ'=>?_) ⟨LS20,f20⟩ (λh21 hj=>⟨rfl,?_⟩)
  ·exact D1 hj.1 (hF.pos k s hkN (List.mem_of_getElem? hsj)) r2 (by omega) λh'' L'' g''=>hQ' h'' ⟨by rw[xM hsj];exact L'',g''.trans hj.2⟩
  ·obtain⟨L21,f21⟩:=hj
   rw[List.take_length]at L21
   obtain⟨S21,H21,u1,u2,u3,u4,u5,u6,u7⟩:=L21.heap
   have hcl:=wh r1 hkN
   refine⟨n - eA (upd done k (some c)) n,by rw[ik r1 n hkN];omega,_,_,_,rfl,⟨L21.nw,by have:=L21.lo;omega,by have:=L21.lt;omega,by omega,L21.cst,L21.len,L21.rbx,L21.dbl,L21.dbx,L21.hbx,⟨S21,H21,?_,u2,u3,u5,u6,u7,?_⟩⟩,r3,r4,r5,f21⟩
   ·exact u1
   ·obtain⟨row',costs',A',K',Bc,Bs,seats,-,-,-,q4⟩:=H21
    exact q4
end
end Eva
end
section
open Go
namespace Eva
structure kh {α:Type} [DecidableEq α] (P:Program) (kt:TypeId) (κ:α->Value):Prop where
 pl:∀a,pl (κ a)=true
 eq:∀a b,au P (Op.equal kt (κ a) (κ b))=some (decide (a=b))
 chk:∀e a,jD P kt e (κ a)=true
 bits:∀a,Instr.sameBits 10000 (κ a) (κ a)=true
section
variable {α:Type} [DecidableEq α]
abbrev MEn (α:Type):=α×Value×Nat
def enM (κ:α->Value) (x:MEn α):Value×Value×Nat:=(κ x.1,x.2.1,x.2.2)
def kY (l:List (MEn α)) (a:α):Option Value:=(l.find? λx=>decide (x.1=a)).map (·.2.1)
theorem jy {P:Program}{kt:TypeId}{κ:α->Value}(K:kh P kt κ) (a:α):∀(l:List (MEn α)) (i:Nat),
  (fp P kt (κ a) (l.map (enM κ)) i=some none/\kY l a=none)\/
  ∃j v b,fp P kt (κ a) (l.map (enM κ)) i=some (some (i+j,v))/\l[j]? = some (a,v,b)/\kY l a=some v/\∀v' a',kY (l.set j (a,v',b)) a' = if a' = a then some v' else kY l a'
 | [],i=>.inl ⟨by show cond (Eva.pl (κ a)) (some none) none=_;rw[K.pl];rfl,rfl⟩
 | x :: l,i=>by
  have e0:fp P kt (κ a) ((x :: l).map (enM κ)) i=mo i x.2.1 (fp P kt (κ a) (l.map (enM κ)) (i+1)) (some (decide (a=x.1))):=by
   show cond (Eva.pl (κ a) && Eva.pl (κ x.1)) (mo i x.2.1 (fp P kt (κ a) (l.map (enM κ)) (i+1)) (au P (Op.equal kt (κ a) (κ x.1)))) none=_
   rw[K.pl,K.pl,K.eq];rfl
  rw[e0]
  by_cases h:a=x.1
  ·refine .inr ⟨0,x.2.1,x.2.2,by rw[decide_eq_true h];rfl,by rw[h];rfl,by simp[kY,h],λv' a'=>?_⟩
   by_cases h':a' = a
   ·simp[kY,h']
   ·have h2:¬a=a':=λe=>h' e.symm
    have h3:¬x.1=a':=λe=>h2 (h.trans e)
    simp[kY,h',h2,h3]
  ·have hx:¬x.1=a:=λe=>h e.symm
   rw[decide_eq_false h]
   rcases jy K a l (i+1) with⟨h1,h2⟩ | ⟨j,v,b,h1,h2,h3,h4⟩
   ·exact .inl ⟨h1,by simpa[kY,hx]using h2⟩
   ·refine .inr ⟨j+1,v,b,by show fp P kt (κ a) (l.map (enM κ)) (i+1)=_;rw[h1];congr 3;omega,by simpa using h2,by simpa[kY,hx]using h3,λv' a'=>?_⟩
    have h5:=h4 v' a'
    by_cases h6:x.1=a'
    ·have h7:¬a' = a:=λe=>hx (h6.trans e)
     simp[kY,h6,h7]
    ·simpa[kY,h6]using h5
theorem tv {κ:α->Value}{a:α}{v v0:Value}{b:Nat}:∀{l:List (MEn α)}{j:Nat},l[j]? = some (a,v0,b)->mu (κ a) v (l.map (enM κ)) j=(l.set j (a,v,b)).map (enM κ)
 | [],j,h=>by simp at h
 | x :: l,0,h=>by simp at h;subst h;rfl
 | x :: l,j+1,h=>by
  show enM κ x :: mu (κ a) v (l.map (enM κ)) j=_
  rw[tv (l:=l) (j:=j) (by simpa using h)];rfl
def dN (κ:α->Value) (h:AH) (r:Nat) (f:α->Option Value):Prop:=
 ∃(l:List (MEn α)) (clock:Nat),h.get r=some (.map (l.map (enM κ)) clock)/\∀a,f a=kY l a
theorem dN.keep {κ:α->Value}{h h':AH}{r:Nat}{f:α->Option Value}(m:dN κ h r f) (hg:h'.get r=h.get r):dN κ h' r f:=by
 obtain⟨l,c,h1,h2⟩:=m
 exact⟨l,c,hg.trans h1,h2⟩
theorem dN.new {κ:α->Value}{h:AH}{r c:Nat}(hg:h.get r=some (.map [] c)):dN κ h r (λ_=>none):=⟨[],c,hg,λa=>rfl⟩
section
variable {P:Program}{kt e:TypeId}{κ:α->Value}{h:AH}{r:Nat}{f:α->Option Value}{i:TypeInfo}{z:Value}
theorem dN.look (m:dN κ h r f) (K:kh P kt κ) (hi:P.info? e=some i) (hz:i.zero=some z) (hp:Eva.pl z=true) (a:α) (ok:Bool) :
  bz P (some (.map kt e)) (.map (some r)) (κ a) ok h=some (cond ok (.tuple #[(f a).getD z,.bool (f a).isSome]) ((f a).getD z)):=by
 obtain⟨l,c,h1,h2⟩:=m
 unfold bz jC
 simp only[h1,hi,K.pl,K.chk,Bool.and_self,cond_true,h2,hz]
 rcases jy K a l 0 with⟨g1,g2⟩ | ⟨j,v,b,g1,g2,g3,-⟩
 ·rw[g1,g2]
  show cond (Eva.pl z) _ none=_
  rw[hp];rfl
 ·rw[g1,g3];rfl
theorem dN.put (m:dN κ h r f) (K:kh P kt κ) (a:α) (v:Value) :
  ∃h',fT P h (some (.map kt e)) (.map (some r)) (κ a) v=some (undef,h')/\dN κ h' r (λx=>if x=a then some v else f x)/\h'.next=h.next/\∀b,b≠r->h'.get b=h.get b:=by
 obtain⟨l,c,h1,h2⟩:=m
 have hput:∀ao,(h.put r ao).get r=some ao:=λao=>by rw[get_put,if_pos rfl]
 have hne:∀ao b,b≠r->(h.put r ao).get b=h.get b:=λao b hb=>by rw[get_put,if_neg hb]
 unfold fT
 simp only[h1,K.pl,K.chk,Bool.and_self,cond_true]
 rcases jy K a l 0 with⟨g1,g2⟩ | ⟨j,v0,b,g1,g2,g3,g4⟩
 ·rw[g1]
  refine⟨h.put r (.map (l.map (enM κ) ++ [(κ a,v,c)]) (c+1)),rfl,⟨l ++ [(a,v,c)],c+1,?_,λx=>?_⟩,rfl,λb hb=>hne _ b hb⟩
  ·rw[hput,List.map_append];rfl
  ·simp only[h2]
   unfold kY at g2⊢
   rw[List.find?_append]
   by_cases hx:x=a
   ·subst hx
    have:List.find? (λy=>decide (y.1=x)) l=none:=by simpa using g2
    simp[this]
   ·have:¬a=x:=λe=>hx e.symm
    simp[hx,this]
 ·rw[g1]
  have hs:lU (κ a) (l.map (enM κ))[0+j]? = true:=by
   rw[Nat.zero_add,List.getElem?_map,g2]
   exact K.bits a
  refine⟨h.put r (.map (mu (κ a) v (l.map (enM κ)) (0+j)) c),by show cond (lU (κ a) (l.map (enM κ))[0+j]?) _ none=_;rw[hs];rfl,⟨l.set j (a,v,b),c,?_,λx=>?_⟩,rfl,λb hb=>hne _ b hb⟩
  ·rw[hput,Nat.zero_add,tv g2]
  ·rw[g4 v x]
   simp only[h2]
end
end
def kN (a:Nat):Value:=.int .i64 a
def kNN (a:Nat×Nat):Value:=.agg #[.int .i64 a.1,.int .i64 a.2]
section
variable {P:Program}{α β:Type}
theorem av (s:Sem α) (k:α->Sem β):au P (s >>= k)=(au P s).bind λa=>au P (k a):=by
 show au P (Sem.bind s k)=_
 induction s with
 | pure a=>rfl
 | program f ih=>exact ih P
 | mark m f ih=>exact ih
 | _=>rfl
theorem a7 (a:α):au P (pure a:Sem α)=some a:=rfl
theorem bZ {t:TypeId}{d:TypeDesc}(h:P.underlying t=some d):au P (underlying t)=some d:=by
 unfold underlying
 rw[av]
 show(Option.bind (some P) _)=_
 simp only[Option.bind_some,h]
 rfl
theorem lC {t:TypeId}{i:TypeInfo}(h:P.info? t=some i):au P (sizeOf t)=some i.size:=by
 unfold sizeOf typeInfo
 rw[av,av]
 show(Option.bind (Option.bind (some P) _) _)=_
 simp only[Option.bind_some,h]
 rfl
theorem eqI {t:TypeId}{k:IntKind}(h:P.underlying t=some (.int k)) (d:Nat) (x y:Int):au P (Op.equalIn (d+1) t (.int .i64 x) (.int .i64 y))=some (x == y):=by
 unfold Op.equalIn
 rw[av,bZ h]
 rfl
theorem Bz {t:TypeId}{k:IntKind}(h:P.underlying t=some (.int k)) (e:Bool) (d:Nat) (x:Int):au P (Instr.checkKey e (d+1) t (.int .i64 x))=some ():=by
 unfold Instr.checkKey
 rw[av,bZ h]
 rfl
theorem ED {kt:TypeId}{d:IntKind}(hu:P.underlying kt=some (.int d)):kh P kt kN where
 pl:=λa=>by rfl
 eq:=λa b=>by
  show au P (Op.equalIn (9999+1) kt (.int .i64 a) (.int .i64 b))=_
  rw[eqI hu]
  congr 1
  exact decide_eq_decide.2 Int.ofNat_inj
 chk:=λe a=>by
  show(match au P (Instr.checkKey e (9999+1) kt (.int .i64 a)) with | some _=>true | none=>false)=true
  rw[Bz hu]
 bits:=λa=>by
  show Instr.sameBits 10000 (.int .i64 a) (.int .i64 a)=true
  unfold Instr.sameBits
  simp
theorem bF (c:Prop) [Decidable c] (s t:Sem α):au P (if c then s else t)=if c then au P s else au P t:=by split <;>rfl
theorem aB {et:TypeId}{d:IntKind}{i:TypeInfo}(he:P.underlying et=some (.int d)) (hi:P.info? et=some i) (x:Array Value) (j:Nat){v:Value}(hv:x[j]? = some v):au P (part et x j)=some v:=by
 unfold part isAgg
 rw[av,av,bZ he]
 simp only[Option.bind_some,hv]
 rfl
theorem D8 {kt et:TypeId}{d:IntKind}{i:TypeInfo}(hu:P.underlying kt=some (.array 2 et)) (he:P.underlying et=some (.int d)) (hi:P.info? et=some i) (hs:i.size=1):kh P kt kNN where
 pl:=λa=>by rfl
 eq:=λa b=>by
  obtain⟨a1,a2⟩:=a
  obtain⟨b1,b2⟩:=b
  show au P (Op.equalIn (9999+1) kt (.agg #[.int .i64 a1,.int .i64 a2]) (.agg #[.int .i64 b1,.int .i64 b2]))=_
  unfold Op.equalIn
  rw[av,bZ hu]
  simp only[Option.bind_some]
  rw[av,lC hi,hs]
  simp only[Option.bind_some]
  simp only[Std.Legacy.Range.forIn_eq_forIn_range',Std.Legacy.Range.size,List.range',List.forIn_cons,List.forIn_nil]
  simp[av,aB he hi,eqI he,List.range',a7,bF]
  by_cases h1:a1=b1 <;>by_cases h2:a2=b2 <;>simp[h1,h2,av,aB he hi,eqI he,a7,beq_iff_eq,Int.ofNat_inj]
 chk:=λe a=>by
  show(match au P (Instr.checkKey e (9999+1) kt (.agg #[.int .i64 a.1,.int .i64 a.2])) with | some _=>true | none=>false)=true
  unfold Instr.checkKey
  rw[av,bZ hu]
  simp only[Option.bind_some]
  simp[av,aB he hi,Bz he,lC hi,hs,List.range',a7]
 bits:=λa=>by
  show Instr.sameBits 10000 (.agg #[.int .i64 a.1,.int .i64 a.2]) (.agg #[.int .i64 a.1,.int .i64 a.2])=true
  unfold Instr.sameBits
  simp[Instr.sameBits]
end
end Eva
end
section
open Go Go.RowKit
namespace Eva
theorem Dc:kh Tryz.prog 3 kN:=ED (d:=.i64) Tryz.underlying3
theorem wm:∃i,Tryz.prog.info? 3=some i/\i.zero=some (.int .i64 0):=by
 obtain⟨i,h1,h2⟩:∃i,Tryz.prog.info? 3=some i/\(match Tryz.prog.info? 3 with | some i=>i.zero | none=>none)=some (.int .i64 0):=by
  cases h:Tryz.prog.info? 3 with
  | some i=>exact⟨i,rfl,by rw[<-h];kernel_rfl⟩
  | none=>
   have:(Tryz.prog.info? 3).isSome=true:=by kernel_rfl
   rw[h]at this;cases this
 exact⟨i,h1,by rw[h1]at h2;exact h2⟩
def pmF (L:List Nat):Nat->Option Value:=λa=>if a∈L then some (.int .i64 ((L.idxOf a:Nat):Int)) else none
theorem zI {L:List Nat}{b:Nat}(hb:b ∉ L):(λx=>if x=b then some (Value.int .i64 (L.length:Int)) else pmF L x)=pmF (L ++ [b]):=by
 funext x
 unfold pmF
 by_cases e:x=b
 ·subst e
  rw[if_pos rfl,if_pos (by simp),List.idxOf_append,if_neg hb]
  simp
 ·rw[if_neg e]
  by_cases h:x∈L
  ·rw[if_pos h,if_pos (by simp[h]),List.idxOf_append,if_pos h]
  ·rw[if_neg h,if_neg (by simp[h,e])]
section
variable {h h0:AH}{Q:Value->AH->Prop}{F:Nat->Prop}{A:Option Addr}{n K:Nat}
theorem wo {L:List Nat}{pm:Nat}(m:dN kN h pm (pmF L)) (b:Nat):bz Tryz.prog (some (.map 3 3)) (.map (some pm)) (.int .i64 (b:Int)) true h=some (.tuple #[.int .i64 (if b∈L then((L.idxOf b:Nat):Int) else 0),.bool (decide (b∈L))]):=by
 obtain⟨i,h1,h2⟩:=wm
 have:=m.look Dc h1 h2 rfl b true
 show bz _ _ _ (kN b) true h=_
 rw[this]
 unfold pmF
 by_cases hb:b∈L
 ·simp[hb]
 ·simp[hb]
theorem zJ {L:List Nat}{pm:Nat}(m:dN kN h pm (pmF L)) (b:Nat):bz Tryz.prog (some (.map 3 3)) (.map (some pm)) (.int .i64 (b:Int)) false h=some (.int .i64 (if b∈L then((L.idxOf b:Nat):Int) else 0)):=by
 obtain⟨i,h1,h2⟩:=wm
 have:=m.look Dc h1 h2 rfl b false
 show bz _ _ _ (kN b) false h=_
 rw[this]
 unfold pmF
 by_cases hb:b∈L
 ·simp[hb]
 ·simp[hb]
theorem uU {L:List Nat}{pm:Nat}(m:dN kN h pm (pmF L)){b:Nat}(hb:b ∉ L):∃h',fT Tryz.prog h (some (.map 3 3)) (.map (some pm)) (.int .i64 (b:Int)) (.int .i64 (L.length:Int))=some (undef,h')/\dN kN h' pm (pmF (L ++ [b]))/\h'.next=h.next/\∀c,c≠pm->h'.get c=h.get c:=by
 obtain⟨h',x1,x2,x3,x4⟩:=m.put (P:=Tryz.prog) (e:=3) Dc b (.int .i64 (L.length:Int))
 rw[zI hb]at x2
 exact⟨h',x1,x2,x3,x4⟩
theorem zK {S:List (List Stp)}{sb:Nat}(hlt:sb<h0.next) (hb:ldC h0 sb 0=some (.slice A n K)) (hs:Sa (Rc.slice aJ) F h0 A n K S) (hS:∀r∈S,r.length<=100000):jx h0 222 #[.pointer (some ⟨sb,0,none⟩)] n (ck S):=by
 refine⟨by kernel_rfl,λa ha h tg tfb J Q hJn hJs htg htell hJ0 hQ=>?_⟩
 have nw0:=hJn 0 h hJ0
 obtain⟨b,o,A',n',K',r,rfl,hF,hbl,hr,e0,s0⟩:=hs.row (k:=a) ha
 have hrS:ck S a=r:=by unfold ck;rw[hr];rfl
 have hrl:=hS r (List.mem_of_getElem? hr)
 have hn':=s0.len
 refine lM ⟨sb,0,rfl,_,_,_,(nw0.ldC hlt 0).trans hb,a,rfl,_,_,rfl,ha,_,_,_,(nw0.ldC hbl _).trans e0,λm x h1=>∃i:Nat,x=i/\i<=n'/\m=n' - i/\J i h1,n',⟨0,rfl,Nat.zero_le _,rfl,hJ0⟩,?_⟩
 rintro m x h1 ⟨i,rfl,hi,rfl,hJ1⟩
 refine⟨λhlt=>?_,λhge=>?_⟩
 ·obtain⟨b3,o3,x3,x4,x5,rfl,-,-,hx,f0,f1,f2⟩:=(s0.nw (hJn _ _ hJ1)).tri (k:=i) (by omega)
  refine⟨i,rfl,_,_,rfl,by omega,_,_,_,uN f0 f1 f2,λh2 e2=>?_⟩
  obtain⟨h3,s3,k3,g3,z3⟩:=ay (vs:=[.int .i64 x3,.int .i64 x4,.int .i64 x5]) e2 rfl (ez rfl rfl rfl)
  refine⟨h3,s3,_,_,_,uN (aa g3 rfl) (aa g3 rfl) (aa g3 rfl),htg,?_⟩
  refine htell i (x3,x4,x5) h3 _ (hJs _ _ _ hJ1 k3) (by rw[hrS];exact hx) λh4 hJ4=>⟨rfl,_,ah (by omega) (by omega),n' - (i+1),by omega,i+1,by omega,by omega,rfl,hJ4⟩
 ·have hin:i=(ck S a).length:=by rw[hrS];omega
  rw[hin]at hJ1
  exact hQ h1 hJ1
end
end Eva
end
section
open Go Go.RowKit
namespace Eva
theorem tyS:tyB Tryz.prog 363 3 24=true:=by kernel_rfl
theorem EE:tyB Tryz.prog 361 1 24=true:=by kernel_rfl
section
variable {h h':AH}{Q:Value->AH->Prop}{F:Nat->Prop}{A:Option Addr}{n K:Nat}{xs:List Int}
theorem BA (hs:Sa cI F h A n K xs) (hn:n<=100000) (hK:∀A' K' h',al cI h' (af A') 3 A' n K' xs->Nw h h'->(∀b,af A' b->h.next<=b)->Q (.slice A' n K') h'):WC Tryz.prog 50 [.slice A n K] h Q:=by
 refine cY ⟨λhA=>?_,λhA=>?_⟩
 ·obtain⟨h0,h1⟩:=hs.nil0 hA
  refine⟨h0,h1,?_⟩
  subst hA h0 h1
  have hx:xs = []:=List.eq_nil_of_length_eq_zero hs.len
  subst hx
  exact hK none 0 h (al.nil _ _ _ _) (Nw.refl _) (λb hb=>hb.elim)
 ·obtain⟨b,o,rfl⟩:=hs.some_ hA
  refine⟨b,o,rfl,λh1 e1=>?_⟩
  obtain⟨k1,g1,z1⟩:=aj e1
  have hB:al cI h1 (af (some ⟨h.next,0,none⟩)) 3 (some ⟨h.next,0,none⟩) 0 (2*0) []:=al.lit (r:=cI) (xs:=[]) (n:=0) g1 rfl (by omega) rfl rfl (by simp) (by simp)
  obtain⟨A',K',h',x1,x2,x3,x4⟩:=aX (c9 _) (r:=cI) dK hB (hs.nw k1).z (by omega) (by omega)
  rw[Nat.zero_add]at x1 x2
  rw[List.nil_append]at x2
  refine⟨A',n,K',h',x1,hK _ _ _ x2 (x3.is_nw k1 λb hb=>?_) λb hb=>?_⟩
  ·have:b=h.next:=hb
   omega
  ·rcases x4 b hb with h2 | h2
   ·have:b=h.next:=h2
    omega
   ·omega
end
theorem tw (N:ab) (outs L:List Nat) (a:Nat) (bs:List Nat):(N.aRow outs L a bs).length<=bs.length:=List.length_filterMap_le _ _
structure AB (h0:AH) (N:ab) (p:List (List Int)) (c pm sb:Nat) (D:Nat->Prop) (A14:Option Addr) (K14 i:Nat) (S:List (List Stp)) (h:AH) (A5:Option Addr) (n5 K5:Nat) (L:List Nat):Prop where
 nw:Nw h0 h
 fld:gm N p c L i S
 len:L.length=n5
 arcs:al cI h (af A5) 3 A5 n5 K5 (ints L)
 map_:dN kN h pm (pmF L)
 sbx:Bk h sb [.slice A14 i K14] 360
 stp:al (Rc.slice aJ) h D 361 A14 i K14 S
 dlo:∀b,D b->h0.next<=b/\b<h.next/\b≠pm/\b≠sb
 alo:∀b,af A5 b->h0.next<=b/\b≠pm/\b≠sb/\¬D b
 pos:h0.next<=pm/\h0.next<=sb/\pm≠sb/\pm<h.next/\sb<h.next
section
variable {h h' h0:AH}{N:ab}{p:List (List Int)}{c pm sb:Nat}{D:Nat->Prop}{A14 A5:Option Addr}{K14 i n5 K5:Nat}{S:List (List Stp)}{L:List Nat}{a b:Nat}
theorem AB.keep (B:AB h0 N p c pm sb D A14 K14 i S h A5 n5 K5 L) (hk:∀b,b<h.next->h'.get b=h.get b) (hn:h.next<=h'.next):AB h0 N p c pm sb D A14 K14 i S h' A5 n5 K5 L:=by
 obtain⟨p1,p2,p3,p4,p5⟩:=B.pos
 have a:Nw h h':=⟨hn,hk⟩
 exact⟨B.nw.trans a,B.fld,B.len,B.arcs.nw a,B.map_.keep (hk _ p4),a.bk p5 B.sbx,B.stp.nw a,λb hb=>by have:=B.dlo b hb;omega,B.alo,by omega⟩
theorem AB.next (B:AB h0 N p c pm sb D A14 K14 i S h A5 n5 K5 L) (a:Nw h h'):AB h0 N p c pm sb D A14 K14 i S h' A5 n5 K5 L:=B.keep a.get a.next
theorem AB.grow (B:AB h0 N p c pm sb D A14 K14 i S h A5 n5 K5 L) (hok:N.Ok) (hfew:N.na<=1000){r:Nat}(ha:L[r]? = some a) (hb:N.aIn (N.outs p 1 c) a b) (hn:b ∉ L) :
  ∃h19,fT Tryz.prog h (some (.map 3 3)) (.map (some pm)) (.int .i64 (b:Int)) (.int .i64 (n5:Int))=some (undef,h19)/\
   ∀h20,h20=AH.new h19 (.cells [.int .i64 (b:Int)] 3 false)->∃A' K' h21,ai Tryz.prog h20 (some (.slice 3)) (some (.slice 3)) (.slice A5 n5 K5) (.slice (some ⟨h19.next,0,none⟩) 1 2)=some (.slice A' (n5+1) K',h21)/\
    AB h0 N p c pm sb D A14 K14 i S h21 A' (n5+1) K' (L ++ [b])/\(∀x,af A' x->af A5 x\/h.next<=x)/\h.next<=h21.next/\(∀x,x<h.next->x≠pm->¬af A5 x->h21.get x=h.get x):=by
 obtain⟨p1,p2,p3,p4,p5⟩:=B.pos
 have hL:=B.fld.len
 obtain⟨h19,x1,x2,x3,x4⟩:=uU B.map_ hn
 rw[B.len]at x1
 refine⟨h19,x1,λh20 e20=>?_⟩
 obtain⟨k20,g20,z20⟩:=aj e20
 have hn5:=B.len
 have arcs19:al cI h19 (af A5) 3 A5 n5 K5 (ints L):=B.arcs.keep (λx hx _=>x4 x (λe=>(B.alo x hx).2.1 e)) (by omega)
 have hz:Sz cI (λx=>x=h19.next) h20 (some ⟨h19.next,0,none⟩) 1 2 [(b:Int)]:=Sz.one g20 rfl (by omega) rfl rfl
 obtain⟨A',K',h21,y1,y2,y3,y4⟩:=aX (c9 _) (r:=cI) dK (arcs19.nw k20) hz (by omega) (by omega)
 have z21:=y3.next
 have same:∀x,x<h.next->x≠pm->¬af A5 x->h21.get x=h.get x:=λx hx h1 h2=>(y3.get x (by omega) h2).trans ((k20.get x (by omega)).trans (x4 x h1))
 have hA:∀x,af A' x->af A5 x\/h.next<=x:=λx hx=>(y4 x hx).imp id (λh=>by omega)
 have nA:∀{x},D x->¬af A5 x:=λhd ha=>(B.alo _ ha).2.2.2 hd
 refine⟨A',K',h21,y1,⟨⟨by have:=B.nw.next;omega,λx hx=>(same x (by have:=B.nw.next;omega) (by omega) (λha=>by have:=(B.alo x ha).1;omega)).trans (B.nw.get x hx)⟩,B.fld.add hok ha hb hn,by simp[hn5],?_,?_,?_,?_,λx hx=>by have:=B.dlo x hx;omega,λx hx=>?_,by omega⟩,hA,by omega,same⟩
 ·have:ints (L ++ [b])=ints L ++ [(b:Int)]:=by simp[ints]
  rw[this]
  exact y2
 ·refine x2.keep ((y3.get _ (by omega) (λha=>(B.alo _ ha).2.1 rfl)).trans (k20.get _ (by omega)))
 ·exact(same _ p5 (Ne.symm p3) (λha=>(B.alo _ ha).2.2.1 rfl)).trans B.sbx
 ·exact B.stp.keep (λx hx hlt=>same x hlt (B.dlo x hx).2.2.1 (nA hx)) (by omega)
 ·rcases hA x hx with h1 | h1
  ·exact B.alo x h1
  ·exact⟨by omega,by omega,by omega,λhd=>by have:=(B.dlo x hd).2.1;omega⟩
end
end Eva
end
section
open Go Go.RowKit
namespace Eva
section
variable {h h' h0 h1:AH}{N:ab}{p:List (List Int)}{c pm sb top:Nat}{D:Nat->Prop}{A14 A5 A8:Option Addr}{K14 i n5 K5 n8 K8:Nat}{S:List (List Stp)}{L:List Nat}{a b:Nat}{l:List Stp}
theorem me (o:al aJ h (af A8) 363 A8 n8 K8 l) (hn:n8<=2000) (s:Stp) (e:h1=AH.new h (.cells [.int .i64 s.1,.int .i64 s.2.1,.int .i64 s.2.2] 363 false)) :
  ∃A' K' h2,ai Tryz.prog h1 (some (.slice 363)) (some (.slice 363)) (.slice A8 n8 K8) (.slice (some ⟨h.next,0,none⟩) 1 2)=some (.slice A' (n8+1) K',h2)/\al aJ h2 (af A') 363 A' (n8+1) K' (l ++ [s])/\Mt (af A8) h h2/\h.next<h2.next/\∀b,af A' b->af A8 b\/h.next<=b:=by
 obtain⟨k1,g1,z1⟩:=aj e
 have hz:Sz aJ (λx=>x=h.next) h1 (some ⟨h.next,0,none⟩) 1 2 [s]:=Sz.one g1 rfl (by omega) rfl rfl
 obtain⟨A',K',h2,y1,y2,y3,y4⟩:=aX (eu _ _ _) (r:=aJ) tyS (o.nw k1) hz (by omega) (by omega)
 have z2:=y3.next
 exact⟨A',K',h2,y1,y2,⟨by omega,λb hb hn=>(y3.get b (by omega) hn).trans (k1.get b hb)⟩,by omega,λb hb=>(y4 b hb).imp id λh=>by omega⟩
theorem AB.off (B:AB h0 N p c pm sb D A14 K14 i S h A5 n5 K5 L) (m:Mt (af A8) h h') (h8:∀b,af A8 b->top<=b/\¬af A5 b) (ht:pm<top/\sb<top/\∀b,D b->b<top):AB h0 N p c pm sb D A14 K14 i S h' A5 n5 K5 L:=by
 obtain⟨p1,p2,p3,p4,p5⟩:=B.pos
 obtain⟨t1,t2,t3⟩:=ht
 have z:=m.next
 have lo:∀{x},x<top->¬af A8 x:=λhx hb=>by have:=(h8 _ hb).1;omega
 have nA:∀{x},af A5 x->¬af A8 x:=λhx hb=>(h8 _ hb).2 hx
 exact⟨⟨by have:=B.nw.next;omega,λx hx=>(m.get x (by have:=B.nw.next;omega) (lo (by omega))).trans (B.nw.get x hx)⟩,B.fld,B.len,B.arcs.keep (λx hx hlt=>m.get x hlt (nA hx)) z,B.map_.keep (m.get _ p4 (lo t1)),m.bk p5 (lo t2) B.sbx,B.stp.keep (λx hx hlt=>m.get x hlt (lo (t3 x hx))) z,λb hb=>by have:=B.dlo b hb;omega,B.alo,by omega⟩
end
theorem dZ {l:List Nat}{a:Nat}:(0<=bg l a↔a∈l):=by
 unfold bg
 by_cases h:a∈l
 ·rw[if_pos h];exact⟨λ_=>h,λ_=>Int.natCast_nonneg _⟩
 ·rw[if_neg h];exact⟨λh'=>absurd h' (by omega),λh'=>absurd h' h⟩
section
variable {h:AH}{Q:Value->AH->Prop}{Fa F F1 F2:Nat->Prop}{g:Nat}{N:ab}{p:List (List Int)}{c:Nat}{A1 A2:Option Addr}{n1 n2 K1 K2:Nat}
theorem BB (G:GrA h Fa F g N) (s1:Sa cI F1 h A1 n1 K1 (ints (N.ins p 1 c))) (s2:Sa cI F2 h A2 n2 K2 (ints (N.outs p 1 c)))
  (hK:∀(L:List Nat) (S:List (List Stp)) (sb:Nat) (A':Option Addr) (K':Nat) (h':AH),gm N p c L L.length S->jx h' 222 #[.pointer (some ⟨sb,0,none⟩)] L.length (ck S)->Sa cI (λb=>h.next<=b) h' A' n1 K' (ints (List.range n1))->Nw h h'->
   Q (.agg #[.int .i64 (L.length:Int),.slice A' n1 K',.func (.func 222) #[] #[.pointer (some ⟨sb,0,none⟩)]]) h') :
  WC Tryz.prog 152 [.pointer (some ⟨g,0,none⟩),.agg #[.slice A1 n1 K1,.slice A2 n2 K2]] h Q:=by
 have hna:=G.few.2
 have hl1:(N.ins p 1 c).length=n1:=by simpa[ints]using s1.len
 have hl2:(N.outs p 1 c).length=n2:=by simpa[ints]using s2.len
 have hn1:n1<=1000:=by rw[<-hl1];exact Nat.le_trans (aC _ _) hna
 have hn2:n2<=1000:=by rw[<-hl2];exact Nat.le_trans (aC _ _) hna
 have hasc:(N.ins p 1 c).Pairwise (· < ·):=aV _ _
 refine oO λh1 e1 h2 e2=>?_
 obtain⟨k1,g1,z1⟩:=aj e1
 obtain⟨k2,g2,z2⟩:=aj e2
 have gb:Bk h2 h.next [.slice A1 n1 K1,.slice A2 n2 K2] 46:=k2.bk (by omega) g1
 have G2:=G.nw (k1.trans k2)
 have s22:=s2.nw (k1.trans k2)
 refine⟨_,_,_,aa (k2.bk (by omega) g1) rfl,BA (s1.nw (k1.trans k2)) (by omega) λA4 K4 h3 o3 k3 hA4=>⟨_,_,_,rfl,λh4 e4=>?_⟩⟩
 obtain⟨k4,g4,z4⟩:=aj e4
 have z3:=k3.next
 have o3lt:∀b,af A4 b->b<h3.next:=λb hb=>o3.own hb
 refine⟨λm x h5=>∃i:Nat,x=i/\i<=n1/\m=n1 - i/\dN kN h5 h3.next (pmF ((N.ins p 1 c).take i))/\h5.next=h4.next/\∀b,b≠h3.next->h5.get b=h4.get b,n1,⟨0,rfl,Nat.zero_le _,rfl,by
  have:pmF ((N.ins p 1 c).take 0)=λ_=>none:=by funext x;simp[pmF]
  rw[this];exact dN.new g4,rfl,λ_ _=>rfl⟩,?_⟩
 rintro m x h5 ⟨i,rfl,hi,rfl,m5,z5,q5⟩
 have k5:Nw h3 h5:=⟨by omega,λb hb=>(q5 b (by omega)).trans (k4.get b hb)⟩
 refine⟨λhlt=>?_,λhge=>?_⟩
 ·have hil:i<n1:=by omega
  obtain⟨b1,o1,x2,hA4',-,-,hx,e0⟩:=(o3.nw k5).sa.int (k:=i) hil
  obtain⟨a,ha⟩:∃a,(N.ins p 1 c)[i]? = some a:=⟨_,List.getElem?_eq_getElem (by omega)⟩
  have hxa:x2=(a:Int):=by simp[ints,ha]at hx;exact hx.symm
  subst hxa
  have hni:a ∉ (N.ins p 1 c).take i:=λhm=>by
   obtain⟨j,hj,he⟩:=List.mem_take_iff_getElem.1 hm
   have h2:(N.ins p 1 c)[j]? = some a:=by rw[List.getElem?_eq_getElem (by omega),he]
   have:=gg hasc h2 ha
   omega
  obtain⟨h6,y1,y2,y3,y4⟩:=uU m5 hni
  have hlen:((N.ins p 1 c).take i).length=i:=by rw[List.length_take];omega
  rw[hlen]at y1
  refine⟨i,rfl,b1,o1,hA4',hil,_,e0,h6,y1,_,ah (by omega) (by omega),n1 - (i+1),by omega,i+1,by omega,by omega,rfl,?_,by omega,λb hb=>(y4 b hb).trans (q5 b hb)⟩
  rw[List.take_add_one,ha]
  exact y2
 obtain rfl:i=n1:=by omega
 rw[List.take_of_length_le (by omega)]at m5
 clear hge hi
 intro h7 e7
 obtain⟨k7,g7,z7⟩:=aj e7
 have hpm:h3.next<h5.next:=by omega
 have B7:AB h2 N p c h3.next h5.next (λ_=>False) none 0 0 [] h7 A4 i K4 (N.ins p 1 c):=by
  have w7:=k5.trans k7
  refine⟨k3.trans w7,gm.start N p c,hl1,o3.nw w7,m5.keep (k7.get _ (by omega)),g7,al.nil _ _ _ _,λb hb=>hb.elim,λb hb=>?_,by omega⟩
  have:=hA4 b hb
  have:=o3lt b hb
  exact⟨by omega,by omega,by omega,id⟩
 refine⟨λm A5 n5 K5 x h8=>∃(j:Nat) (L:List Nat) (S:List (List Stp)) (A14:Option Addr) (K14:Nat) (D:Nat->Prop),x=j/\m=N.na - j/\AB h2 N p c h3.next h5.next D A14 K14 j S h8 A5 n5 K5 L/\∀r∈S,r.length<=1000,N.na,⟨0,_,_,_,_,_,rfl,rfl,B7,by simp⟩,?_⟩
 rintro m A5 n5 K5 x h8 ⟨j,L,S,A14,K14,D,rfl,rfl,B8,hS⟩
 have hLna:=B8.fld.len
 have hLn:=B8.len
 refine⟨λhlt=>?_,λhge=>?_⟩
 ·have hj:j<n5:=by omega
  obtain⟨b2,o2,x5,rfl,-,-,hx,e0⟩:=B8.arcs.sa.int (k:=j) hj
  obtain⟨a,ha⟩:∃a,L[j]? = some a:=⟨_,List.getElem?_eq_getElem (by omega)⟩
  have hxa:x5=(a:Int):=by simp[ints,ha]at hx;exact hx.symm
  subst hxa
  have han:=(B8.fld.mem a (List.mem_of_getElem? ha)).1
  have hto:=(ab.to_lt G.ok han).1
  refine⟨j,rfl,b2,o2,rfl,hj,_,e0,aTo (G2.nw B8.nw) han ⟨_,rfl,Ch (G2.nw B8.nw) hto λA6 K6 h10 s6 k6=>⟨_,_,_,rfl,?_⟩⟩⟩
  have hfl:(N.from_ (N.to a)).length<=1000:=Nat.le_trans (aC _ _) hna
  obtain⟨bs,hbs⟩:∃bs,N.from_ (N.to a)=bs:=⟨_,rfl⟩
  rw[hbs]at s6 hfl⊢
  have B10:=B8.next k6
  have hDt:∀b,D b->b<h10.next:=λb hb=>(B10.dlo b hb).2.1
  obtain⟨t1,t2,t3,t4,t5⟩:=B10.pos
  refine⟨λm A7 n7 K7 A8 n8 K8 x h11=>∃(q:Nat) (L':List Nat),x=q/\q<=bs.length/\m=bs.length - q/\AB h2 N p c h3.next h5.next D A14 K14 j S h11 A7 n7 K7 L'/\L'[j]? = some a/\(∀b∈bs.take q,N.aIn (N.outs p 1 c) a b->b∈L')/\al aJ h11 (af A8) 363 A8 n8 K8 (N.aRow (N.outs p 1 c) L' a (bs.take q))/\(∀b,af A8 b->h10.next<=b/\¬af A7 b)/\Nw h10 h10/\h10.next<=h11.next/\Sa cI (λb=>h8.next<=b/\b<h10.next/\¬af (some ⟨b2,o2,none⟩) b) h11 A6 bs.length K6 (ints bs)/\(∀b,af A7 b->af (some ⟨b2,o2,none⟩) b\/h10.next<=b),bs.length,⟨0,L,rfl,Nat.zero_le _,rfl,B10,ha,by simp,al.nil _ _ _ _,λb hb=>hb.elim,Nw.refl _,Nat.le_refl _,s6.mono λb hb hlt=>⟨hb,hlt,λho=>by have:=B8.arcs.own ho;omega⟩,λb hb=>.inl hb⟩,?_⟩
  rintro m A7 n7 K7 A8 n8 K8 x h11 ⟨q,L',rfl,hq,rfl,B11,ha',hcl,o8,u8,-,hz11,s11,hA7⟩
  have hn8:n8<=1000:=by
   have h1:=o8.len
   have h2:=tw N (N.outs p 1 c) L' a (bs.take q)
   have h3:(bs.take q).length<=bs.length:=by rw[List.length_take];omega
   omega
  refine⟨λhlt=>?_,λhge=>?_⟩
  ·have hql:q<bs.length:=by omega
   obtain⟨b3,o3',x8,hA6,-,-,hx8,f0⟩:=s11.int (k:=q) hql
   obtain⟨b,hb⟩:∃b,bs[q]? = some b:=⟨_,List.getElem?_eq_getElem (by omega)⟩
   have hxb:x8=(b:Int):=by simp[ints,hb]at hx8;exact hx8.symm
   subst hxb
   have hbn:b<N.na:=((ab.mem_from G.ok).1 (by rw[hbs];exact List.mem_of_getElem? hb)).1
   have tb:=ab.turn_bd G.ok a b
   have wb:=ab.w_bd G.ok b
   refine⟨q,rfl,b3,o3',hA6,hql,_,f0,Ci (G2.nw B11.nw) han hbn λh12 k12=>⟨_,rfl,md (G2.nw (B11.nw.trans k12)) hbn ⟨_,rfl,?_⟩⟩⟩
   have B12:=B11.next k12
   have o12:=o8.nw k12
   have s12:=s11.nw k12
   have hz12:=k12.next
   have hrow:=pP (N:=N) (outs:=N.outs p 1 c) (L:=L') (a:=a) hb
   have w1:IntKind.i64.wrap ((q:Int)+1)=((q+1:Nat):Int):=by rw[Int.natCast_succ];exact ah (by omega) (by omega)
   have skip:N.aStep (N.outs p 1 c) L' a b=none->¬N.aIn (N.outs p 1 c) a b->∃x11:Int,IntKind.i64.wrap ((q:Int)+1)=x11/\∃m':Nat,m' < bs.length - q/\∃(q':Nat) (L'':List Nat),x11=q'/\q'<=bs.length/\m' = bs.length - q'/\AB h2 N p c h3.next h5.next D A14 K14 j S h12 A7 n7 K7 L''/\L''[j]? = some a/\(∀b∈bs.take q',N.aIn (N.outs p 1 c) a b->b∈L'')/\al aJ h12 (af A8) 363 A8 n8 K8 (N.aRow (N.outs p 1 c) L'' a (bs.take q'))/\(∀b,af A8 b->h10.next<=b/\¬af A7 b)/\Nw h10 h10/\h10.next<=h12.next/\Sa cI (λb=>h8.next<=b/\b<h10.next/\¬af (some ⟨b2,o2,none⟩) b) h12 A6 bs.length K6 (ints bs)/\(∀b,af A7 b->af (some ⟨b2,o2,none⟩) b\/h10.next<=b):=λhs hi=>by
    refine⟨_,w1,bs.length - (q+1),by omega,q+1,L',rfl,hql,rfl,B12,ha',λy hy hin=>?_,?_,u8,Nw.refl _,by omega,s12,hA7⟩
    ·rw[List.take_add_one,hb]at hy
     rcases List.mem_append.1 hy with hy | hy
     ·exact hcl y hy hin
     ·simp at hy;subst hy;exact absurd hin hi
    ·rw[hrow,hs];simpa using o12
   refine⟨λhge=>?_,λhlt2=>?_⟩
   ·exact skip (by unfold ab.aStep;rw[if_pos hge]) (λhin=>by have:=hin.1;unfold INF at this;omega)
   have ht:N.turn a b<INF:=Int.not_le.1 hlt2
   refine⟨_,_,_,aa (B12.nw.bk (by omega) gb) rfl,ie b (s22.nw B12.nw) (aV _ _) (by omega) ⟨_,rfl,λhpl=>?_,λhpl=>?_⟩⟩
   ·
    have hbo:=dZ.1 hpl
    have hplI:bg (N.outs p 1 c) b=(((N.outs p 1 c).idxOf b:Nat):Int):=by unfold bg;rw[if_pos hbo]
    rw[hplI]
    intro h15 e15
    obtain⟨A10,K10,h16,y1,y2,y3,y4,y5⟩:=me o12 (by omega) (0,(((N.outs p 1 c).idxOf b:Nat):Int),N.turn a b) e15
    refine⟨A10,n8+1,K10,h16,y1,_,w1,bs.length - (q+1),by omega,q+1,L',rfl,hql,rfl,B12.off y3 u8 ⟨t4,t5,hDt⟩,ha',λy hy hin=>?_,?_,λz hz=>?_,Nw.refl _,by omega,s12.off y3 λz hz ho=>by have:=(u8 z ho).1;omega,hA7⟩
    ·rw[List.take_add_one,hb]at hy
     rcases List.mem_append.1 hy with hy | hy
     ·exact hcl y hy hin
     ·simp at hy;subst hy;exact absurd hbo hin.2.1
    ·rw[hrow,pQ ht hbo];exact y2
    ·rcases y5 z hz with h9 | h9
     ·exact u8 z h9
     ·exact⟨by omega,λho=>by have:=B12.arcs.own ho;omega⟩
   have hbo:b ∉ N.outs p 1 c:=λhm=>hpl (dZ.2 hm)
   refine⟨λhwge=>?_,λhwlt=>?_⟩
   ·exact skip (by unfold ab.aStep;rw[if_neg hlt2,if_neg hbo,if_pos hwge]) (λhin=>by have:=hin.2.2;unfold INF at this;omega)
   have hw:N.w b<INF:=Int.not_le.1 hwlt
   have hin:N.aIn (N.outs p 1 c) a b:=⟨ht,hbo,hw⟩
   have wc:IntKind.i64.wrap (N.turn a b+N.w b)=N.turn a b+N.w b:=ah (by omega) (by unfold INF at ht hw;omega)
   refine⟨_,_,wo B12.map_ b,λhbL=>?_,λhbL=>?_⟩
   ·
    have hbm:b∈L':=of_decide_eq_true hbL
    rw[if_pos hbm]
    refine⟨_,wc,λh17 e17=>?_⟩
    obtain⟨A10,K10,h16,y1,y2,y3,y4,y5⟩:=me o12 (by omega) (((L'.idxOf b:Nat):Int),-1,N.turn a b+N.w b) e17
    refine⟨A10,n8+1,K10,h16,y1,_,w1,bs.length - (q+1),by omega,q+1,L',rfl,hql,rfl,B12.off y3 u8 ⟨t4,t5,hDt⟩,ha',λy hy hin'=>?_,?_,λz hz=>?_,Nw.refl _,by omega,s12.off y3 λz hz ho=>by have:=(u8 z ho).1;omega,hA7⟩
    ·rw[List.take_add_one,hb]at hy
     rcases List.mem_append.1 hy with hy | hy
     ·exact hcl y hy hin'
     ·simp at hy;subst hy;exact hbm
    ·rw[hrow,nG hin];exact y2
    ·rcases y5 z hz with h9 | h9
     ·exact u8 z h9
     ·exact⟨by omega,λho=>by have:=B12.arcs.own ho;omega⟩
   ·
    have hbm:b ∉ L':=of_decide_eq_false hbL
    obtain⟨h19,u1,u2⟩:=B12.grow G.ok (by omega) ha' hin hbm
    refine⟨h19,u1,λh20 e20=>?_⟩
    obtain⟨A12,K12,h21,v1,B21,v2,v3,v4⟩:=u2 h20 e20
    have o21:al aJ h21 (af A8) 363 A8 n8 K8 (N.aRow (N.outs p 1 c) L' a (bs.take q)):=o12.keep (λz hz hlt=>v4 z hlt (λe=>by have:=(u8 z hz).1;omega) (u8 z hz).2) v3
    refine⟨A12,n7+1,K12,h21,v1,_,wc,λh22 e22=>?_⟩
    obtain⟨A10,K10,h23,y1,y2,y3,y4,y5⟩:=me o21 (by omega) ((n7:Int),-1,N.turn a b+N.w b) e22
    have h8':∀z,af A8 z->h10.next<=z/\¬af A12 z:=λz hz=>⟨(u8 z hz).1,λho=>(v2 z ho).elim (u8 z hz).2 λh=>by have:=o12.own hz;omega⟩
    have s21:=s12.keep (λz hz hlt=>v4 z hlt (λe=>hz.2.2 ((by subst e;exact absurd hz.1 (by have:=B8.pos;omega)))) (λho=>(hA7 z ho).elim hz.2.2 λh=>by omega)) v3
    have hl7:=B12.len
    refine⟨A10,n8+1,K10,h23,y1,_,w1,bs.length - (q+1),by omega,q+1,L' ++ [b],rfl,hql,rfl,B21.off y3 h8' ⟨t4,t5,hDt⟩,by rw[List.getElem?_append_left (List.getElem?_eq_some_iff.1 ha').1];exact ha',λy hy hin'=>?_,?_,λz hz=>?_,Nw.refl _,by omega,s21.off y3 λz hz ho=>by have:=(u8 z ho).1;omega,λz hz=>(v2 z hz).elim (hA7 z) λh=>.inr (by omega)⟩
    ·rw[List.take_add_one,hb]at hy
     rcases List.mem_append.1 hy with hy | hy
     ·exact List.mem_append_left _ (hcl y hy hin')
     ·simp at hy;subst hy;simp
    ·rw[pP hb,nG hin,sZ hcl,List.idxOf_append,if_neg hbm]
     have:L'.length=n7:=hl7
     simpa[this]using y2
    ·rcases y5 z hz with h9 | h9
     ·exact h8' z h9
     ·exact⟨by omega,λho=>by have:=B21.arcs.own ho;omega⟩
  ·
   obtain rfl:q=bs.length:=by omega
   rw[List.take_length]at hcl o8
   refine⟨_,_,_,aa B11.sbx rfl,λh24 e24=>?_⟩
   obtain⟨k24,g24,z24⟩:=aj e24
   have own24:=B11.stp.nw k24
   have hz:Sz (Rc.slice aJ) (λz=>z=h11.next\/af A8 z) h24 (some ⟨h11.next,0,none⟩) 1 2 [N.aRow (N.outs p 1 c) L' a bs]:=
    Sz.one g24 (.inl rfl) (by omega) rfl ⟨A8,n8,K8,rfl,(o8.nw k24).sa.mono λz hz _=>.inr hz⟩
   have hi14:j<=1000:=by have:=B11.fld.le;have:=B11.fld.len;omega
   have nD:∀{z},D z->z<h10.next:=λhd=>hDt _ hd
   have h14D:∀z,af A14 z->D z:=λz hz=>(B11.stp.lt hz).1
   obtain⟨A15,K15,h25,y1,y2,y3,y4⟩:=fL (r:=Rc.slice aJ) (bytes:=24) EE own24 hz (λz hz ho=>by
    have:=nD (h14D z ho)
    rcases hz with h9 | h9
    ·omega
    ·have:=(u8 z h9).1;omega) (by omega) (by omega)
   obtain⟨p1,p2,p3,p4,p5⟩:=B11.pos
   have z25:=y3.next
   have sb25:Bk h25 h5.next [.slice A14 j K14] 360:=y3.bk (by omega) (λho=>(B11.dlo _ (h14D _ ho)).2.2.2 rfl) (k24.bk p5 B11.sbx)
   obtain⟨h26,s26,b26,z26,o26⟩:=aA (v:=.slice A15 (j+1) K15) sb25 (o:=0) (by simp) rfl
   have same:∀z,z<h11.next->z≠h5.next->¬af A14 z->h26.get z=h11.get z:=λz hz h1 h2=>(o26 z h1).trans ((y3.get z (by omega) h2).trans (k24.get z hz))
   have w1:IntKind.i64.wrap ((j:Int)+1)=((j+1:Nat):Int):=by rw[Int.natCast_succ];exact ah (by omega) (by omega)
   refine⟨A15,j+1,K15,h25,y1,h26,s26,_,w1,N.na - (j+1),by have:=B11.fld.le;have:=B11.fld.len;omega,j+1,L',S ++ [N.aRow (N.outs p 1 c) L' a bs],A15,K15,λb=>(D b\/(b=h11.next\/af A8 b)\/b=h24.next)/\b<h25.next,rfl,rfl,⟨⟨by have:=B11.nw.next;omega,λz hz=>(same z (by have:=B11.nw.next;omega) (by omega) (λho=>by have:=(B11.dlo z (h14D z ho)).1;omega)).trans (B11.nw.get z hz)⟩,by rw[<-hbs];exact B11.fld.next G.ok ha' (by rw[hbs];exact hcl),B11.len,?_,?_,b26,?_,λz hz=>?_,λz hz=>?_,by omega⟩,λr hr=>?_⟩
   ·exact B11.arcs.keep (λz hz hlt=>same z hlt (B11.alo z hz).2.2.1 (λho=>(B11.alo z hz).2.2.2 (h14D z ho))) (by omega)
   ·exact B11.map_.keep (same _ (by omega) (by omega) (λho=>(B11.dlo _ (h14D _ ho)).2.2.1 rfl))
   ·refine(y2.mono (D':=λb=>(D b\/(b=h11.next\/af A8 b)\/b=h24.next)/\b<h25.next) λz hz hlt=>⟨hz,hlt⟩).keep (λz hz hlt=>o26 z ?_) (by omega)
    rcases hz.1 with h9 | (h9 | h9) | h9
    ·exact(B11.dlo z h9).2.2.2
    ·omega
    ·have:=(u8 z h9).1;omega
    ·omega
   ·have e2:=hz.2
    rcases hz.1 with h9 | (h9 | h9) | h9
    ·have:=B11.dlo z h9;omega
    ·omega
    ·have:=(u8 z h9).1;omega
    ·omega
   ·obtain⟨a1,a2,a3,a4⟩:=B11.alo z hz
    have:=B11.arcs.own hz
    refine⟨a1,a2,a3,λh9=>?_⟩
    rcases h9.1 with h9 | (h9 | h9) | h9
    ·exact a4 h9
    ·omega
    ·exact(u8 z h9).2 hz
    ·omega
   ·rcases List.mem_append.1 hr with hr | hr
    ·exact hS r hr
    ·simp at hr
     subst hr
     have:=tw N (N.outs p 1 c) L' a bs
     omega
 ·
  have hjL:j=L.length:=by have:=B8.fld.le;omega
  intro h27 e27
  obtain⟨h28,s28,k28,g28,z28⟩:=ay (vs:=[.int .i64 n5,.slice none 0 0,.nilFunc]) e27 rfl (ez rfl rfl rfl)
  have nw28:=B8.nw.trans k28
  obtain⟨p1,p2,p3,p4,p5⟩:=B8.pos
  refine⟨h28,s28,_,_,_,aa (nw28.bk (by omega) gb) rfl,λm x h29=>∃(q:Nat) (A17:Option Addr) (K17:Nat),x=q/\q<=i/\m=i - q/\Bk h29 h8.next [.int .i64 n5,.slice A17 q K17,.nilFunc] 277/\al cI h29 (af A17) 3 A17 q K17 (ints (List.range q))/\(∀b,af A17 b->h28.next<=b)/\h28.next<=h29.next/\(∀b,b<h28.next->b≠h8.next->h29.get b=h28.get b),i,⟨0,none,0,rfl,Nat.zero_le _,rfl,g28,al.nil _ _ _ _,λb hb=>hb.elim,Nat.le_refl _,λ_ _ _=>rfl⟩,?_⟩
  rintro m x h29 ⟨q,A17,K17,rfl,hq,rfl,b29,o29,lo29,hz29,q29⟩
  refine⟨λhlt=>?_,λhge=>?_⟩
  ·refine⟨_,_,_,aa b29 rfl,λh30 e30=>?_⟩
   obtain⟨k30,g30,z30⟩:=aj e30
   have hz:Sz cI (λz=>z=h29.next) h30 (some ⟨h29.next,0,none⟩) 1 2 [(q:Int)]:=Sz.one g30 rfl (by omega) rfl rfl
   obtain⟨A18,K18,h31,y1,y2,y3,y4⟩:=aX (c9 _) (r:=cI) dK (o29.nw k30) hz (by omega) (by omega)
   have z31:=y3.next
   have b31:Bk h31 h8.next [.int .i64 n5,.slice A17 q K17,.nilFunc] 277:=y3.bk (by omega) (λho=>by have:=lo29 _ ho;omega) (k30.bk (by omega) b29)
   obtain⟨h32,s32,b32,z32,o32⟩:=aA (v:=.slice A18 (q+1) K18) b31 (o:=1) (by simp) rfl
   have lo18:∀z,af A18 z->h28.next<=z:=λz hz=>(y4 z hz).elim (lo29 z) (λh=>by omega)
   refine⟨A18,q+1,K18,h31,y1,h32,s32,_,ah (by omega) (by omega),i - (q+1),by omega,q+1,A18,K18,by omega,by omega,rfl,b32,?_,lo18,by omega,λz hz hne=>(o32 z hne).trans ((y3.get z (by omega) (λho=>by have:=lo29 _ ho;omega)).trans ((k30.get z (by omega)).trans (q29 z hz hne)))⟩
   have:ints (List.range (q+1))=ints (List.range q) ++ [(q:Int)]:=by simp[ints,List.range_succ]
   rw[this]
   exact y2.keep (λz hz _=>o32 z (by have:=lo18 z hz;omega)) (by omega)
  ·obtain rfl:q=i:=by omega
   obtain⟨h33,s33,b33,z33,o33⟩:=aA (v:=.func (.func 222) #[] #[.pointer (some ⟨h5.next,0,none⟩)]) b29 (o:=2) (by simp) rfl
   have f33:Bk h33 h1.next [.int .i64 0,.slice none 0 0,.nilFunc] 277:=(o33 _ (by omega)).trans ((q29 _ (by omega) (by omega)).trans (nw28.bk (by omega) g2))
   obtain⟨h34,s34,b34,z34,o34⟩:=bI (vs:=[.int .i64 n5,.slice A17 q K17,.func (.func 222) #[] #[.pointer (some ⟨h5.next,0,none⟩)]]) f33 rfl (ez rfl rfl rfl)
   have same:∀z,z<h28.next->z≠h8.next->z≠h1.next->h34.get z=h28.get z:=λz hz h1 h2=>(o34 z h2).trans ((o33 z h1).trans (q29 z hz h1))
   refine⟨h33,s33,_,_,_,_,_,_,bY b33 (by simp),h34,s34,_,_,_,_,_,_,bY b34 (by simp),?_⟩
   have hnw:Nw h h34:=⟨by omega,λz hz=>(same z (by omega) (by omega) (by omega)).trans ((nw28.get z (by omega)).trans ((k1.trans k2).get z hz))⟩
   have hA17:Sa cI (λb=>h.next<=b) h34 A17 q K17 (ints (List.range q)):=((o29.keep (λz hz _=>(o34 z (by have:=lo29 z hz;omega)).trans (o33 z (by have:=lo29 z hz;omega))) (by omega)).sa).mono λz hz _=>by have:=lo29 z hz;omega
   have hsb:Bk h34 h5.next [.slice A14 j K14] 360:=(same _ (by omega) (by omega) (by omega)).trans (k28.bk p5 B8.sbx)
   have hst:Sa (Rc.slice aJ) D h34 A14 j K14 S:=B8.stp.sa.keep (λz hz hlt=>(same z (by omega) (by omega) (by have:=(B8.dlo z hz).1;omega)).trans (k28.get z hlt)) (by omega)
   have hnx:jx h34 222 #[.pointer (some ⟨h5.next,0,none⟩)] j (ck S):=zK (by omega) (aa hsb rfl) hst (λr hr=>by have:=hS r hr;omega)
   have hfl:=B8.fld
   rw[hjL]at hnx hfl
   have:=hK L S h5.next A17 K17 h34 hfl hnx hA17 hnw
   rw[hLn]at this
   exact this
end
end Eva
end
section
open Go Go.RowKit
def ki (costs:List Int) (first:Nat) (ls:List Stp) (j:Nat):List Stp:=(List.range j).filterMap (fI costs first ls)
theorem gu (costs:List Int) (first:Nat) (ls:List Stp) (j:Nat):ki costs first ls (j+1)=ki costs first ls j ++ (fI costs first ls j).toList:=by
 unfold ki
 rw[List.range_succ,List.filterMap_append]
 cases h:fI costs first ls j <;>simp[List.filterMap_cons,h]
theorem uV (costs:List Int) (first:Nat) (ls:List Stp){j n:Nat}(h:j<=n):∃M,ki costs first ls n=ki costs first ls j ++ M:=by
 induction n with
 | zero=>obtain rfl:=Nat.le_zero.1 h;exact⟨[],by simp⟩
 | succ n ih=>
  rcases Nat.eq_or_lt_of_le h with rfl | h1
  ·exact⟨[],by simp⟩
  ·obtain⟨M,hM⟩:=ih (by omega)
   exact⟨M ++ (fI costs first ls n).toList,by rw[gu,hM,List.append_assoc]⟩
theorem xN {costs:List Int}{first:Nat}{ls:List Stp}{j:Nat}{s:Stp}(hj:j<ls.length) (h:fI costs first ls j=some s):(nH costs first ls)[(ki costs first ls j).length]? = some s:=by
 obtain⟨M,hM⟩:=uV costs first ls (show j+1<=ls.length from hj)
 rw[gu,h]at hM
 show(ki costs first ls ls.length)[_]? = _
 rw[hM,List.append_assoc,List.getElem?_append_right (Nat.le_refl _),Nat.sub_self]
 rfl
theorem zL {N:ab}{p:List (List Int)}{k c:Nat}{ks:List Nat}(hK:fo N p k c ks) (hok:N.Ok) (hp:ax N.nv p) (hk:2<=k) (hkl:k<=p.length){d m:Nat}(hd:d∈ks) (hm:m∈N.outs p (k - 1) d) (hn:m ∉ N.outs p k c):m∈N.LK p k ks ks.length:=by
 obtain⟨g1,g2,g3⟩:=ab.mem_outs.1 hm
 obtain⟨v,v1,v2,v3⟩:=(hK.mem d).1 hd
 have hf:=(ab.fr_lt hok g1).1
 have e1:cel p k (N.fr m)=cel p k v:=bW hp (l:=k - 1) (by omega) (by omega) hkl hf v1 (g2.trans v3.symm)
 have e2:cel p k (N.to m)=c:=by
  by_cases e:cel p k (N.to m)=c
  ·exact e
  ·exact absurd (ab.mem_outs.2 ⟨g1,e1.trans v2,e⟩) hn
 exact(hK.in_kid hok hp hk hkl).2 ⟨g1,e2,rfl,by rw[g2];exact λh=>g3 h.symm⟩
namespace Eva
section
variable {h h0:AH}{Q:Value->AH->Prop}{F F1 F2 F3:Nat->Prop}{A1 A2 A3:Option Addr}{n n2 n3 K1 K2 K3:Nat}
theorem zM {spots:List (Int×Int)}{lists:List (List Stp)}{costs:List Int}{sp lb cb:Nat}(hlt:sp<h0.next/\lb<h0.next/\cb<h0.next) (b1:ldC h0 sp 0=some (.slice A1 n K1)) (s1:Sa cPr F1 h0 A1 n K1 spots) (b2:ldC h0 lb 0=some (.slice A2 n2 K2)) (s2:Sa (Rc.slice aJ) F2 h0 A2 n2 K2 lists) (b3:ldC h0 cb 0=some (.slice A3 n3 K3)) (s3:Sa cI F3 h0 A3 n3 K3 costs)
  (hn3:n3<=1000000) (hsp:∀x∈spots,∃i r,x.2=((i:Nat):Int)/\lists[i]? = some r/\r.length<=100000/\(r = []\/(0<=x.1/\x.1.toNat+r.length<=n3))) (hc:∀c∈costs,0<=c) (hl:∀r∈lists,∀s∈r,0<=s.2.2) :
  jx h0 225 #[.pointer (some ⟨sp,0,none⟩),.pointer (some ⟨lb,0,none⟩),.pointer (some ⟨cb,0,none⟩)] n (λq=>match spots[q]? with | some x=>nH costs x.1.toNat ((lists[x.2.toNat]?).getD []) | none=>[]):=by
 refine⟨by kernel_rfl,λa ha h tg tfb J Q hJn hJs htg htell hJ0 hQ=>?_⟩
 have nw0:=hJn 0 h hJ0
 obtain⟨ba,oa,x,y,rfl,-,hba,hx,e0,e1⟩:=s1.pair (k:=a) ha
 obtain⟨i,r,hi,hr,hrl,hrr⟩:=hsp (x,y) (List.mem_of_getElem? hx)
 simp only at hi hrr
 subst hi
 have hin2:i<n2:=by rw[<-s2.len];exact(List.getElem?_eq_some_iff.1 hr).1
 obtain⟨bb,ob,A4,n4,K4,r',rfl,-,hbb,hr',f0,s4⟩:=s2.row (k:=i) hin2
 rw[hr]at hr'
 injection hr' with hr'
 subst hr'
 have hn4:r.length=n4:=s4.len
 simp only[hx,Int.toNat_natCast,hr,Option.getD_some]at htell hQ
 have hcl:=s3.len
 refine lN ⟨sp,0,rfl,_,_,_,(nw0.ldC hlt.1 0).trans b1,a,rfl,_,_,rfl,ha,_,(nw0.ldC hba _).trans e0,lb,0,rfl,_,_,_,(nw0.ldC hlt.2.1 0).trans b2,_,_,_,(nw0.ldC hlt.1 0).trans b1,_,_,rfl,ha,_,(nw0.ldC hba _).trans e1,i,rfl,_,_,rfl,hin2,_,_,_,(nw0.ldC hbb _).trans f0,
  λm z h1=>∃j:Nat,z=j/\j<=n4/\m=n4 - j/\J (ki costs x.toNat r j).length h1,n4,⟨0,rfl,Nat.zero_le _,rfl,hJ0⟩,?_⟩
 rintro m z h1 ⟨j,rfl,hj,rfl,hJ1⟩
 refine⟨λhlt'=>?_,λhge=>?_⟩
 ·have hjn:j<n4:=by omega
  have nw1:=hJn _ _ hJ1
  obtain⟨bt,ot,x5,x6,x7,rfl,-,-,hx5,t0,t1,t2⟩:=(s4.nw nw1).tri (k:=j) hjn
  have hx7:0<=x7:=hl r (List.mem_of_getElem? hr) _ (List.mem_of_getElem? hx5)
  have hx0:0<=x/\x.toNat+r.length<=n3:=hrr.resolve_left (λe=>by rw[e]at hx5;simp at hx5)
  obtain⟨f,rfl⟩:=Int.eq_ofNat_of_zero_le hx0.1
  simp only[Int.toNat_natCast]at hx0 hJ1 htell hQ⊢
  refine⟨j,rfl,_,_,rfl,hjn,_,_,_,uN t0 t1 t2,λh2 e2=>?_⟩
  obtain⟨h3,q3,k3,g3,z3⟩:=ay (vs:=[.int .i64 x5,.int .i64 x6,.int .i64 x7]) e2 rfl (ez rfl rfl rfl)
  have nw3:=nw1.trans k3
  have w8:IntKind.i64.wrap ((f:Int)+(j:Int))=((f+j:Nat):Int):=by rw[Int.natCast_add];exact ah (by omega) (by omega)
  have w1:IntKind.i64.wrap ((j:Int)+1)=((j+1:Nat):Int):=by rw[Int.natCast_succ];exact ah (by omega) (by omega)
  obtain⟨b8,o8,x10,hA3,-,-,hx10,c0⟩:=(s3.nw nw3).int (k:=f+j) (by omega)
  have h10:at_ costs (f+j)=x10:=by unfold at_;rw[hx10];rfl
  have hx10n:=hc _ (List.mem_of_getElem? hx10)
  have hsk:fI costs f r j=none->∃x19:Int,IntKind.i64.wrap ((j:Int)+1)=x19/\∃m':Nat,m' < n4 - j/\∃j':Nat,x19=j'/\j'<=n4/\m' = n4 - j'/\J (ki costs f r j').length h3:=λht=>by
   refine⟨_,w1,n4 - (j+1),by omega,j+1,rfl,by omega,rfl,?_⟩
   rw[gu,ht]
   simpa using hJs _ _ _ hJ1 k3
  refine⟨h3,q3,_,w8,cb,0,rfl,_,_,_,(nw3.ldC hlt.2.2 0).trans b3,λh=>absurd h (by omega),λ_=>⟨_,_,_,(nw3.ldC hlt.2.2 0).trans b3,_,w8,f+j,rfl,b8,o8,hA3,by omega,_,c0,λht=>⟨_,aa g3 rfl,λhs=>?_,λhs=>?_⟩,λht=>?_⟩⟩
  ·have ht1:fI costs f r j=some (x5,x6,x7+x10):=by
    unfold fI
    rw[hx5]
    simp only[h10]
    rw[if_pos ⟨ht,hs⟩]
   obtain⟨h4,q4,g4,z4,o4⟩:=aA (v:=.int .i64 (x7+x10)) g3 (o:=2) (by simp) rfl
   have k4:Nw h1 h4:=⟨by have:=k3.next;omega,λb hb=>(o4 b (by omega)).trans (k3.get b hb)⟩
   refine⟨_,aa g3 rfl,_,ah (by omega) (by omega),h4,q4,_,_,_,bY g4 (by simp),htg,?_⟩
   refine htell _ (x5,x6,x7+x10) h4 _ (hJs _ _ _ hJ1 k4) (xN (by omega) ht1) λh5 hJ5=>⟨rfl,_,w1,n4 - (j+1),by omega,j+1,rfl,by omega,rfl,?_⟩
   rw[gu,ht1]
   simpa using hJ5
  ·exact hsk (by unfold fI;rw[hx5];simp only[h10];rw[if_neg (λh=>hs h.2)])
  ·exact hsk (by unfold fI;rw[hx5];simp only[h10];rw[if_neg (λh=>ht h.1)])
 ·obtain rfl:j=r.length:=by omega
  exact hQ h1 hJ1
theorem EF {o:Nat}{N:ab}{p:List (List Int)}(O:OvA h F o N p){k d j:Nat}(hk:2<=k) (hkl:k<=p.length) (hd:d<ap p (k - 1)) (hj:j<(N.ins p (k - 1) d).length)
  (hK:∀h',Nw h h'->Q (.int .i64 (N.firstK p k d j)) h'):WC Tryz.prog 11 [.pointer (some ⟨o,0,none⟩),.int .i64 ((k - 1:Nat):Int),.int .i64 d,.int .i64 j,.int .i64 0] h Q:=by
 unfold ab.firstK at hK
 rcases Nat.eq_zero_or_pos (N.outs p (k - 1) d).length with h0 | h0
 ·have he:N.outs p (k - 1) d = []:=List.eq_nil_of_length_eq_zero h0
  rw[if_pos he]at hK
  obtain⟨k',rfl⟩:∃k',k=k' + 2:=⟨k - 2,by omega⟩
  have e1:k' + 2 - 1=k' + 1:=rfl
  rw[e1]at hd hj h0⊢
  have hp6:=O.hp.few
  obtain⟨b1,o1,n1,K1,b2,o2,K2,A3,K3,A4,K4,c3,hkn,l1,e2,l2,e3,e4,s3,s4⟩:=O.gate_ (k:=k') (by omega) hd
  rw[h0]at e4
  refine bU (xE O (by omega) (by omega) hd ⟨_,rfl,λ_=>?_,λh=>Bool.noConfusion h⟩)
  refine⟨_,_,rfl,_,_,_,c3,_,ah (by omega) (by omega),k',by omega,_,_,rfl,hkn,_,_,_,e2,d,rfl,_,_,rfl,hd,_,_,_,_,_,_,pc e3 e4,λh2 e7=>?_⟩
  obtain⟨h3,hs3,k3,g3,z3⟩:=ay (vs:=[.slice A3 (N.ins p (k' + 1) d).length K3,.slice A4 0 K4]) e7 rfl (dR rfl rfl)
  exact⟨h3,hs3,λh=>absurd h (by omega),λ_=>⟨_,_,_,aa g3 rfl,λh=>absurd h (by omega),λ_=>⟨λh=>absurd h (by omega),λ_=>⟨_,_,_,aa g3 rfl,λ_=>hK _ k3,λh=>absurd (Int.le_refl _) h⟩⟩⟩⟩
 ·rw[if_neg (λe=>by rw[e]at h0;simp at h0)]at hK
  refine oAt O (j:=0) (by omega) (by omega) hd hj h0 λh' k'=>?_
  have:=hK h' k'
  rwa [Nat.add_zero]
end
end Eva
end
section
open Go Go.RowKit
namespace Eva
theorem tyG:tyB Tryz.prog 46 2 48=true:=by kernel_rfl
theorem EH:tyB Tryz.prog 367 2 16=true:=by kernel_rfl
def gv (N:ab) (p:List (List Int)) (k:Nat) (ks:List Nat) (i:Nat):List (List Int×List Int):=(List.range i).map λj=>(ints (N.ins p (k - 1) ((ks[j]?).getD 0)),ints (N.outs p (k - 1) ((ks[j]?).getD 0)))
theorem tz (N:ab) (p:List (List Int)) (k:Nat) (ks:List Nat) (i:Nat):gv N p k ks (i+1)=gv N p k ks i ++ [(ints (N.ins p (k - 1) ((ks[i]?).getD 0)),ints (N.outs p (k - 1) ((ks[i]?).getD 0)))]:=by
 unfold gv
 rw[List.range_succ,List.map_append];rfl
structure KB (h0:AH) (lo pm sb:Nat) (D:Nat->Prop) (A5:Option Addr) (i K5:Nat) (gs:List (List Int×List Int)) (h:AH) (L:List Nat) (sp:List (Int×Int)):Prop where
 nw:Nw h0 h
 gates:al Rc.gate h D 46 A5 i K5 gs
 map_:dN kN h pm (pmF L)
 spt:∃A12 K12,Bk h sb [.slice A12 L.length K12] 365/\al cPr h (af A12) 367 A12 L.length K12 sp/\(∀b,af A12 b->lo<=b/\b≠pm/\b≠sb/\¬D b)
 dlo:∀b,D b->lo<=b/\b<h.next/\b≠pm/\b≠sb
 pos:h0.next<=pm/\h0.next<=sb/\pm≠sb/\pm<h.next/\sb<h.next
 hlo:h0.next<=lo/\lo<=h.next
section
variable {h h' h0:AH}{Q:Value->AH->Prop}{N:ab}{p:List (List Int)}{lo pm sb:Nat}{D:Nat->Prop}{A5:Option Addr}{i K5:Nat}{gs:List (List Int×List Int)}{L:List Nat}{sp:List (Int×Int)}{a:Nat}
theorem KB.next (B:KB h0 lo pm sb D A5 i K5 gs h L sp) (a:Nw h h'):KB h0 lo pm sb D A5 i K5 gs h' L sp:=by
 obtain⟨A12,K12,s1,s2,s3⟩:=B.spt
 obtain⟨p1,p2,p3,p4,p5⟩:=B.pos
 have z:=a.next
 exact⟨B.nw.trans a,B.gates.nw a,B.map_.keep (a.get _ p4),⟨A12,K12,a.bk p5 s1,s2.nw a,s3⟩,λb hb=>by have:=B.dlo b hb;omega,by omega,by have:=B.hlo;omega⟩
theorem KB.push (B:KB h0 lo pm sb D A5 i K5 gs h L sp) (hn:a ∉ L) (hL:L.length<=2000):∃A12 K12,ldC h sb 0=some (.slice A12 L.length K12)/\aZ (.slice A12 L.length K12)/\
  ∃h14,fT Tryz.prog h (some (.map 3 3)) (.map (some pm)) (.int .i64 (a:Int)) (.int .i64 (L.length:Int))=some (undef,h14)/\ldC h14 sb 0=some (.slice A12 L.length K12)/\h14.next=h.next/\(∀b,b≠pm->h14.get b=h.get b)/\
   ∀h15 x y,Nw h14 h15->ldC h15 sb 0=some (.slice A12 L.length K12)/\∀h16,h16=AH.new h15 (.cells [.int .i64 x,.int .i64 y] 367 false)->
    ∃A14 K14 h17,ai Tryz.prog h16 (some (.slice 367)) (some (.slice 367)) (.slice A12 L.length K12) (.slice (some ⟨h15.next,0,none⟩) 1 2)=some (.slice A14 (L.length+1) K14,h17)/\
     ∃h18,stC h17 sb 0 [.slice A14 (L.length+1) K14]=some h18/\KB h0 lo pm sb D A5 i K5 gs h18 (L ++ [a]) (sp ++ [(x,y)])/\h.next<=h18.next/\(∀b,b<h.next->b≠pm->b≠sb->(b<lo\/D b)->h18.get b=h.get b):=by
 obtain⟨A12,K12,s1,s2,s3⟩:=B.spt
 obtain⟨p1,p2,p3,p4,p5⟩:=B.pos
 obtain⟨q1',q2'⟩:=B.hlo
 obtain⟨h14,x1,x2,x3,x4⟩:=uU B.map_ hn
 have sb14:Bk h14 sb [.slice A12 L.length K12] 365:=(x4 _ (Ne.symm p3)).trans s1
 refine⟨A12,K12,aa s1 rfl,s2.spot,h14,x1,aa sb14 rfl,x3,x4,λh15 x y k15=>⟨aa (k15.bk (by omega) sb14) rfl,λh16 e16=>?_⟩⟩
 obtain⟨k16,g16,z16⟩:=aj e16
 have z15:=k15.next
 have o14:al cPr h14 (af A12) 367 A12 L.length K12 sp:=s2.keep (λb hb _=>x4 b (s3 b hb).2.1) (by omega)
 have hz:Sz cPr (λz=>z=h15.next) h16 (some ⟨h15.next,0,none⟩) 1 2 [(x,y)]:=Sz.one g16 rfl (by omega) rfl rfl
 obtain⟨A14,K14,h17,y1,y2,y3,y4⟩:=aX (xD _ _) (r:=cPr) EH (o14.nw (k15.trans k16)) hz (by omega) (by omega)
 have z17:=y3.next
 have sb17:Bk h17 sb [.slice A12 L.length K12] 365:=y3.bk (by omega) (λho=>(s3 _ ho).2.2.1 rfl) ((k15.trans k16).bk (by omega) sb14)
 obtain⟨h18,q1,q2,q3,q4⟩:=aA (v:=.slice A14 (L.length+1) K14) sb17 (o:=0) (by simp) rfl
 have same:∀b,b<h.next->b≠pm->b≠sb->¬af A12 b->h18.get b=h.get b:=λb hb h1 h2 h3=>(q4 b h2).trans ((y3.get b (by omega) h3).trans (((k15.trans k16).get b (by omega)).trans (x4 b h1)))
 have nA:∀{b},D b->¬af A12 b:=λhd ha=>(s3 _ ha).2.2.2 hd
 have lo14:∀b,af A14 b->lo<=b/\b≠pm/\b≠sb/\¬D b:=λb hb=>by
  rcases y4 b hb with h1 | h1
  ·exact s3 b h1
  ·exact⟨by omega,by omega,by omega,λhd=>by have:=(B.dlo b hd).2.1;omega⟩
 refine⟨A14,K14,h17,y1,h18,q1,⟨⟨by have:=B.nw.next;omega,λb hb=>(same b (by have:=B.nw.next;omega) (by omega) (by omega) (λho=>by have:=(s3 b ho).1;omega)).trans (B.nw.get b hb)⟩,?_,?_,⟨A14,K14,?_,?_,lo14⟩,λb hb=>by have:=B.dlo b hb;omega,by omega,by omega⟩,by omega,λb hb h1 h2 hd=>same b hb h1 h2 (hd.elim (λhlt ho=>by have:=(s3 _ ho).1;omega) nA)⟩
 ·exact B.gates.keep (λb hb hlt=>same b hlt (B.dlo b hb).2.2.1 (B.dlo b hb).2.2.2 (nA hb)) (by omega)
 ·exact x2.keep ((q4 _ p3).trans ((y3.get _ (by omega) (λho=>(s3 _ ho).2.1 rfl)).trans ((k15.trans k16).get _ (by omega))))
 ·rw[List.length_append];exact q2
 ·rw[List.length_append]
  exact y2.keep (λb hb _=>q4 b (lo14 b hb).2.2.1) (by omega)
end
end Eva
end
end Go.Proofs.YtaomlhopkfmheaaGreatDoor
