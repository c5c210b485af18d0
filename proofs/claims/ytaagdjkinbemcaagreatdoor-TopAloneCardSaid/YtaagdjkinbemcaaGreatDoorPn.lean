/-
Lemmas for TopAlone. No condition.
-/
import Derived.Test.YtaagdjkinbemcaaGreatDoorPm
import Derived.Test.YtaagdjkinbemcaaGreatDoorPg
import Derived.Test.YtaagdjkinbemcaaGreatDoorPk
import Derived.Test.YtaagdjkinbemcaaGreatDoorPl
import Derived.Test.YtaagdjkinbemcaaGreatDoorPi
import Derived.Test.YtaagdjkinbemcaaGreatDoorPj
namespace Go.Proofs.YtaagdjkinbemcaaGreatDoor
open _root_.Go.IntKind renaming i64->η
open _root_.Go.Value renaming int->ψ,pointer->ν,slice->Y
open _root_.Option renaming none->ξ,some->ω
set_option linter.unusedVariables false
set_option linter.unusedSimpArgs false
set_option linter.unusedSectionVars false
set_option linter.unnecessarySimpa false
section
open Go Go.RowKit
structure gW (na:Nat) (d cap lim:Int) (st:List (Int×Int)):Prop where
 d_:0<=d/\d<na
 cap_:0<=cap/\cap<=2147483648
 lim_:0<=lim/\lim<=1152921504606846976
 few:st.length<=10
 st_:∀s∈st,(0<=s.1/\s.1<na)/\0<=s.2/\s.2<=2147483648
def eJ (n:Nat) (T:List (List Nat)):Prop:=T.length=n/\∀(i:Nat) (r:List Nat),T[i]? = ω r->r.length=n/\∀d∈r,d<=bl
def tab (T:List (List Nat)) (i k:Nat):Nat:=match T[i]? with
 | some r=>(match r[k]? with
  | some d=>d
  | none=>0)
 | none=>0
theorem za {T:List (List Nat)}{i k d:Nat}{r:List Nat}(h1:T[i]? = ω r) (h2:r[k]? = ω d):tab T i k=d:=by
 unfold tab;rw[h1];simp only;rw[h2]
theorem zb {n:Nat}{T:List (List Nat)}(h:eJ n T) (i k:Nat):tab T i k<=bl:=by
 unfold tab;cases h1:T[i]? with
 | none=>exact Nat.zero_le _
 | some r=>
  simp only;cases h2:r[k]? with
  | none=>exact Nat.zero_le _
  | some d=>exact(h.2 i r h1).2 d (List.mem_of_getElem? h2)
def oP (T:List (List Nat)) (n:Nat):Nat->Int->List Int->Int
 | at_,all,[]=>iU all (tab T at_ 0)
 | at_,all,k :: l=>if k<1\/(n:Int)<=k then 1152921504606846976 else oP T n k.toNat (iU all (tab T at_ k.toNat)) l
def xv (T:List (List Nat)) (n:Nat) (l:List Int):Int:=if l = [] then 0 else oP T n 0 0 l
def dZ (st:List (Int×Int)):Int->List Int->Int
 | all,[]=>all
 | all,k :: l=>if 1<=k/\k<=(st.length:Int) then dZ st (IntKind.i64.wrap (all+(st.getD (k - 1).toNat (0,0)).2)) l else dZ st all l
def oQ (st:List (Int×Int)) (cap lim:Int) (T:List (List Nat)) (n:Nat) (l:List Int):Bool:=
 decide (dZ st 0 l<=cap) && (decide (xv T n l<1152921504606846976) && decide (xv T n l<=lim))
def rh (cap lim load there back:Int):Option Int:=
 if cap<load then ω 13 else if 1152921504606846976<=there then ω 12 else if 1152921504606846976<=back then ω 12 else if 1152921504606846976<=iU there back then ω 14 else if lim<iU there back then ω 14 else ξ
def jT (cap lim:Int) (st:List (Int×Int)) (T:List (List Nat)) (i:Nat):Option Int:=rh cap lim (st.getD i (0,0)).2 (tab T 0 (i+1)) (tab T (i+1) 0)
namespace Eva
def iH (h:AH) (lo:Nat) (v:Value) (s:ByteArray) (a e:Int):Prop:=∃b,v = .iface 101 (ν (ω ⟨b,0,ξ⟩))/\Bk h b [.string s,ψ η a,.iface 100 (ψ η e)] 105/\b<h.next/\lo<=b
section
variable {h h' h0:AH}{Q:Value->AH->Prop}{E F:Nat->Prop}{A A2:Option Addr}{n K K2 na:Nat}{d cap lim:Int}{st:List (Int×Int)}{T:List (List Nat)}{l:List Int}
theorem iH.nw {v:Value}{s:ByteArray}{a e:Int}{lo lo':Nat}(f:iH h lo v s a e) (k:Nw h h') (hl:lo'<=lo):iH h' lo' v s a e:=by
 obtain⟨b,h1,h2,h3,h4⟩:=f;exact⟨b,h1,k.bk h3 h2,Nat.lt_of_lt_of_le h3 k.next,Nat.le_trans hl h4⟩
theorem Gn {s:ByteArray}{a e:Int}(hK:∀v h',iH h' h.next v s a e->v≠.nilIface->Nw h h'->∃e1,v=ac e1/\Q (ac e1) h'):WC Tryz.prog 60 [.string s,ψ η a,ψ η e] h (λv h2=>∃e1,v=ac e1/\Q (ac e1) h2):=by
 refine wB λh1 e1=>?_;obtain⟨k1,g1,z1⟩:=aj e1;exact hK _ h1 ⟨h.next,rfl,g1,U,Nat.le_refl _⟩ (λh=>by cases h) k1
theorem mw {h1:AH}{t:TypeId}(e1:h1=AH.new h (.cells [ψ η d,ψ η cap,ψ η lim,Y A n K] t false)):Nw h h1/\h1.next=h.next+1/\∀h2,Nw h1 h2->ldC h2 h.next 0=ω (ψ η d)/\ldC h2 h.next 1=ω (ψ η cap)/\ldC h2 h.next 2=ω (ψ η lim)/\ldC h2 h.next 3=ω (Y A n K)/\aB h2 h.next 0 4=ω [ψ η d,ψ η cap,ψ η lim,Y A n K]:=by
 obtain⟨k1,g1,z1⟩:=aj e1;refine⟨k1,z1,λh2 k2=>?_⟩;have g2:Bk h2 h.next _ _:=k2.bk U g1;exact⟨aa g2 rfl,aa g2 rfl,aa g2 rfl,aa g2 rfl,by rw[bo g2 (by simp)];rfl⟩
theorem Cg (J:gW na d cap lim st) (s:Sa jo E h A n K st) (hK:∀h',Nw h h'->Q .nilIface h'):WC Tryz.prog 26 [ψ η na,.agg #[ψ η d,ψ η cap,ψ η lim,Y A n K]] h Q:=by
 obtain⟨j1,j2⟩:=J.d_;obtain⟨j3,j4⟩:=J.cap_;obtain⟨j5,j6⟩:=J.lim_;have hn:n<=10:=by rw[<-s.len];exact J.few
 refine wD λh1 e1=>?_;obtain⟨k1,z1,ld⟩:=mw e1;obtain⟨l0,l1,l2,l3,-⟩:=ld h1 (Nw.refl _);refine⟨_,l0,λh=>absurd h U,λ_=>⟨_,l0,λh=>absurd h U,λ_=>⟨_,l1,λh=>absurd h U,λ_=>⟨_,l1,λh=>absurd h U,λ_=>⟨_,l2,λh=>absurd h U,λ_=>⟨_,l2,λh=>absurd h U,λ_=>⟨_,_,_,l3,λh=>absurd h U,λ_=>⟨_,_,_,l3,λm x h2=>∃i:Nat,x=i/\i<=n/\m=n - i/\Nw h h2,n,⟨0,rfl,Nat.zero_le _,rfl,k1⟩,?_⟩⟩⟩⟩⟩⟩⟩⟩;rintro m x h2 ⟨i,rfl,hi,rfl,k2⟩;refine⟨λhlt=>?_,λ_=>hK h2 k2⟩;obtain⟨b,o,x,y,hA,-,-,hx,e2,e3⟩:=(s.nw k2).pair (k:=i) U;obtain⟨⟨q1,q2⟩,q3,q4⟩:=J.st_ _ (List.mem_of_getElem? hx);refine⟨i,rfl,b,o,hA,U,x,y,kT e2 e3,λh3 e4=>?_⟩;obtain⟨h4,s4,k4,g4,z4⟩:=aD (vs:=[ψ η x,ψ η y]) e4 rfl (cR rfl rfl);have q1':0<=x:=q1;have q2':x<na:=q2;have q3':0<=y:=q3;have q4':y<=2147483648:=q4;exact⟨h4,s4,x,aa g4 rfl,λh=>absurd h U,λ_=>⟨x,aa g4 rfl,λh=>absurd h U,λ_=>⟨y,aa g4 rfl,λh=>absurd h U,λ_=>⟨y,aa g4 rfl,λh=>absurd h U,λ_=>⟨_,ae U U,n - (i+1),U,i+1,U,U,rfl,k2.trans k4⟩⟩⟩⟩⟩
theorem jM (hT:eJ n T) (s:Sa aM E h A n K (T.map dz)){i:Nat}(hi:i<n):∃b o A' K',A=ω ⟨b,o,ξ⟩/\b<h.next/\ldC h b (o+i)=ω (Y A' n K')/\∀k,k<n->∃b' o',A' = ω ⟨b',o',ξ⟩/\b' < h.next/\ldC h b' (o' + k)=ω (ψ η ((tab T i k:Nat):Int)):=by
 obtain⟨b,o,A',n',K',row,hA,-,hb,hr,e0,s2⟩:=s.row hi;rw[List.getElem?_map]at hr;cases hv:T[i]? with
 | none=>rw[hv]at hr;cases hr
 | some r=>
  rw[hv]at hr;obtain rfl:=Option.some.inj hr;obtain⟨hl,-⟩:=hT.2 i r hv;have hn':n' = n:=by rw[<-s2.len];unfold dz;rw[List.length_map];exact hl
  subst hn';refine⟨b,o,A',K',hA,hb,e0,λk hk=>?_⟩;obtain⟨b',o',x,hA',-,hb',hx,e1⟩:=s2.int hk;refine⟨b',o',hA',hb',?_⟩;have hkr:r[k]? = ω (tab T i k):=by
   have e:r[k]? = ω (r[k]' U):=List.getElem?_eq_getElem _;rw[za hv e];exact e
  unfold dz at hx;rw[List.getElem?_map,hkr]at hx;rw[e1,<-Option.some.inj hx]
theorem AD (hT:eJ n T) (s:Sa aM E h A n K (T.map dz)) (hn:n<=1000) (hK:Q .nilIface h):WC Tryz.prog 65 [ψ η n,Y A n K] h Q:=by
 refine uL ⟨λ_=>⟨λm x h1=>∃i:Nat,x=i/\i<=n/\m=n - i/\h1=h,n,⟨0,rfl,Nat.zero_le _,rfl,rfl⟩,?_⟩,λh=>absurd rfl h⟩;rintro m x h1 ⟨i,rfl,hi,rfl,rfl⟩;refine⟨λhlt=>?_,λ_=>hK⟩;have hil:i<n:=U;obtain⟨b,o,A',K',hA,hb,e0,er⟩:=jM hT s hil;refine⟨i,rfl,b,o,hA,hil,_,_,_,e0,λ_=>⟨λm x h2=>∃k:Nat,x=k/\k<=n/\m=n - k/\h2=h1,n,⟨0,rfl,Nat.zero_le _,rfl,rfl⟩,?_⟩,λh=>absurd rfl h⟩;rintro m x h2 ⟨k,rfl,hk,rfl,rfl⟩;refine⟨λhlt=>?_,λ_=>⟨_,ae U U,n - (i+1),U,i+1,U,hil,rfl,rfl⟩⟩;obtain⟨b',o',hA',-,e1⟩:=er k U;have:=zb hT i k;unfold bl at this;exact⟨k,rfl,b',o',hA',U,_,e1,λh=>absurd h U,λ_=>⟨λh=>absurd h U,λ_=>⟨_,ae U U,n - (k+1),U,k+1,U,U,rfl,rfl⟩⟩⟩
theorem EE (hT:eJ n T) (s:Sa aM E h A n K (T.map dz)){i k:Nat}(hi:i<n) (hk:k<n) (hK:Q (ψ η ((tab T i k:Nat):Int)) h):WC Tryz.prog 153 [Y A n K,ψ η i,ψ η k] h Q:=by
 obtain⟨b,o,A',K',hA,hb,e0,er⟩:=jM hT s hi;obtain⟨b',o',hA',-,e1⟩:=er k hk;exact yH ⟨i,rfl,b,o,hA,hi,_,_,_,e0,λh=>absurd h U,λ_=>⟨hi,_,_,_,e0,k,rfl,b',o',hA',hk,_,e1,hK⟩⟩
theorem vj (hT:eJ n T) (s:Sa aM E h A n K (T.map dz)) (hn:0<n){m:Nat}(sl:Sa cI F h A2 m K2 l) (hm:m<=1000) (hK:Q (ψ η (xv T n l)) h):WC Tryz.prog 80 [Y A n K,Y A2 m K2] h Q:=by
 have hml:=sl.len;refine uM ⟨λh0=>?_,λh0=>?_⟩
 .have:l = []:=List.eq_nil_of_length_eq_zero U;unfold xv at hK;rw[if_pos this]at hK;exact hK
 have hne:l≠[]:=λe=>h0 (by rw[<-hml,e];rfl);unfold xv at hK;rw[if_neg hne]at hK;refine⟨λm' x1 x2 x3 h1=>∃(i at_:Nat),x2=at_/\x3=i/\i<=m/\m' = m - i/\at_<n/\oP T n 0 0 l=oP T n at_ x1 (l.drop i)/\h1=h,m,⟨0,0,rfl,rfl,Nat.zero_le _,rfl,hn,rfl,rfl⟩,?_⟩;rintro m' x1 x2 x3 h1 ⟨i,at_,rfl,rfl,hi,rfl,hat,hgo,rfl⟩;refine⟨λhlt=>?_,λhge=>?_⟩
 .obtain⟨b,o,k,hA,-,-,hk,e⟩:=sl.int (k:=i) U;have hd:l.drop i=k :: l.drop (i+1):=by
   rw[List.drop_eq_getElem_cons U,(List.getElem?_eq_some_iff.1 hk).2]
  rw[hd]at hgo;refine⟨i,rfl,b,o,hA,U,k,e,λh1=>?_,λh1=>⟨λh2=>?_,λh2=>?_⟩⟩
  .rw[hgo,oP,if_pos (.inl h1)]at hK;exact hK
  .rw[hgo,oP,if_pos (.inr h2)]at hK;exact hK
  .obtain⟨kn,rfl⟩:∃kn:Nat,k=kn:=⟨k.toNat,U⟩;rw[oP,if_neg U]at hgo;exact EE hT s hat U ⟨_,rfl,DZ _ _ ⟨_,rfl,_,ae U U,m - (i+1),U,i+1,kn,rfl,U,U,rfl,U,hgo,rfl⟩⟩
 .obtain rfl:i=m:=U;rw[List.drop_of_length_le U]at hgo;rw[hgo,oP]at hK;exact EE hT s hat hn ⟨_,rfl,DZ _ _ ⟨_,rfl,hK⟩⟩
theorem He (s:Sa jo E h A n K st) (hn:n<=1000){m:Nat}(sl:Sa cI F h A2 m K2 l) (hm:m<=1000) (hK:∀h',Nw h h'->Q (ψ η (dZ st 0 l)) h'):WC Tryz.prog 144 [.agg #[ψ η d,ψ η cap,ψ η lim,Y A n K],Y A2 m K2] h Q:=by
 have hml:=sl.len;have hsl:=s.len;refine yG λh1 e1=>?_;obtain⟨k1,z1,ld⟩:=mw e1;obtain⟨-,-,-,l3,-⟩:=ld h1 (Nw.refl _);refine⟨λm' x1 x2 h2=>∃i:Nat,x2=i/\i<=m/\m' = m - i/\dZ st 0 l=dZ st x1 (l.drop i)/\h2=h1,m,⟨0,rfl,Nat.zero_le _,rfl,rfl,rfl⟩,?_⟩;rintro m' x1 x2 h2 ⟨i,rfl,hi,rfl,hgo,rfl⟩;refine⟨λhlt=>?_,λhge=>?_⟩
 .obtain⟨b,o,k,hA,-,-,hk,e⟩:=(sl.nw k1).int (k:=i) U;have hd:l.drop i=k :: l.drop (i+1):=by
   rw[List.drop_eq_getElem_cons U,(List.getElem?_eq_some_iff.1 hk).2]
  rw[hd]at hgo;have w1:IntKind.i64.wrap ((i:Int)+1)=((i+1:Nat):Int):=ae U U;have skip:¬(1<=k/\k<=(st.length:Int))->∃x:Int,IntKind.i64.wrap ((i:Int)+1)=x/\∃m'':Nat,m'' < m - i/\∃i':Nat,x=i'/\i'<=m/\m'' = m - i'/\dZ st 0 l=dZ st x1 (l.drop i')/\h2=h2:=λhn=>by
   rw[dZ,if_neg hn]at hgo;exact⟨_,w1,m - (i+1),U,i+1,rfl,U,rfl,hgo,rfl⟩
  refine⟨i,rfl,b,o,hA,U,k,e,λh1=>⟨_,_,_,l3,λh2'=>?_,λh2'=>skip λh=>h2' U⟩,λh1=>skip λh=>h1 h.1⟩;obtain⟨kn,hkn⟩:∃kn:Nat,k=(kn:Int)+1:=⟨(k - 1).toNat,U⟩;obtain⟨b2,o2,x,y,hA2,-,-,hx,e2,e3⟩:=(s.nw k1).pair (k:=kn) U;rw[dZ,if_pos ⟨h1,U⟩]at hgo;have hy:(st.getD (k - 1).toNat (0,0)).2=y:=by
   rw[show(k - 1).toNat=kn by omega,List.getD_eq_getElem?_getD,hx];rfl
  rw[hy]at hgo;exact⟨_,_,_,l3,(kn:Int),by rw[hkn,ae U U];omega,kn,rfl,b2,o2,hA2,U,_,e3,_,rfl,_,w1,m - (i+1),U,i+1,rfl,U,rfl,hgo,rfl⟩
 .obtain rfl:i=m:=U;rw[List.drop_of_length_le U,dZ]at hgo;rw[<-hgo];exact hK h2 k1
theorem Hf (J:gW na d cap lim st) (s:Sa jo E h A n K st) (hT:eJ (n+1) T) (sT:Sa aM F h A2 (n+1) K2 (T.map dz))
  (hK0:∀h',(∀i,i<n->jT cap lim st T i=ξ)->Nw h h'->Q .nilIface h')
  (hK1:∀i e v h',i<n->(∀j,j<i->jT cap lim st T j=ξ)->jT cap lim st T i=ω e->iH h' h.next v ⟨#[115,116,111,112]⟩ ((i+1:Nat):Int) e->v≠.nilIface->Nw h h'->∃e1,v=ac e1/\Q (ac e1) h') :
  WC Tryz.prog 30 [.agg #[ψ η d,ψ η cap,ψ η lim,Y A n K],Y A2 (n+1) K2] h Q:=by
 have hsl:=s.len;have hn:n<=10:=by rw[<-hsl];exact J.few
 refine yF λh1 e1=>?_;obtain⟨k1,z1,ld⟩:=mw e1;obtain⟨-,-,-,l3,-⟩:=ld h1 (Nw.refl _);have w1:∀{i:Nat},i<=10->IntKind.i64.wrap ((i:Int)+1)=((i+1:Nat):Int):=λhi=>ae U U;refine⟨_,_,_,l3,_,w1 hn,AD hT (sT.nw k1) U ⟨ξ,rfl,λ_=>⟨_,_,_,l3,λm x h2=>∃i:Nat,x=i/\i<=n/\m=n - i/\(∀j,j<i->jT cap lim st T j=ξ)/\Nw h1 h2,n,⟨0,rfl,Nat.zero_le _,rfl,λj hj=>absurd hj (Nat.not_lt_zero _),Nw.refl _⟩,?_⟩,λt u h=>by cases h⟩⟩;rintro m x h2 ⟨i,rfl,hi,rfl,hfit,k2⟩;refine⟨λhlt=>?_,λhge=>hK0 h2 (λj hj=>hfit j U) (k1.trans k2)⟩;have hil:i<n:=U;have k12:=k1.trans k2;obtain⟨b,o,x,y,hA,-,-,hx,e2,e3⟩:=(s.nw k12).pair hil;refine⟨i,rfl,b,o,hA,hil,x,y,kT e2 e3,λh3 e4=>?_⟩;obtain⟨h4,s4,k4,g4,z4⟩:=aD (vs:=[ψ η x,ψ η y]) e4 rfl (cR rfl rfl);have k04:=k12.trans k4;obtain⟨b2,o2,A3,K3,hA2,-,r0,c0⟩:=jM hT (sT.nw k04) (i:=0) U;obtain⟨b3,o3,hA3,-,c1⟩:=c0 (i+1) U;obtain⟨b4,o4,A4,K4,hA4,-,r1,d0⟩:=jM hT (sT.nw k04) (i:=i+1) U;obtain⟨b5,o5,hA5,-,d1⟩:=d0 0 U;rw[hA2]at hA4;obtain⟨rfl,rfl⟩:b2=b4/\o2=o4:=by
  injection hA4 with h;injection h with h1 h2;exact⟨h1,h2⟩
 obtain⟨l0,l1,l2,-,-⟩:=ld h4 (k2.trans k4);have hy:(st.getD i (0,0)).2=y:=by rw[List.getD_eq_getElem?_getD,hx];rfl
 have hwi:=w1 (i:=i) U;have fin:∀e,jT cap lim st T i=ω e->∃x:Int,IntKind.i64.wrap ((i:Int)+1)=x/\WC Tryz.prog 60 [.string ⟨#[115,116,111,112]⟩,ψ η x,ψ η e] h4 (λv h2=>∃e1,v=ac e1/\Q (ac e1) h2):=λe he=>⟨_,hwi,Gn λv h5 f5 n5 k5=>hK1 i e v h5 hil hfit he (f5.nw (Nw.refl _) k04.next) n5 (k04.trans k5)⟩;refine⟨h4,s4,b2,o2,hA2,U,_,_,_,r0,_,hwi,i+1,rfl,b3,o3,hA3,U,_,c1,_,hwi,i+1,rfl,U,_,_,_,r1,b5,o5,hA5,U,_,d1,DZ _ _ ⟨_,rfl,y,aa g4 rfl,cap,l1,λh1=>fin 13 ?_,λh1=>⟨λh2=>fin 12 ?_,λh2=>⟨λh3=>fin 12 ?_,λh3=>⟨λh4=>fin 14 ?_,λh4'=>⟨lim,l2,λh5=>fin 14 ?_,λh5=>⟨_,hwi,n - (i+1),U,i+1,rfl,hil,rfl,λj hj=>?_,k2.trans k4⟩⟩⟩⟩⟩⟩⟩
 .unfold jT rh;rw[hy,if_pos h1]
 .unfold jT rh;rw[hy,if_neg h1,if_pos h2]
 .unfold jT rh;rw[hy,if_neg h1,if_neg h2,if_pos h3]
 .unfold jT rh;rw[hy,if_neg h1,if_neg h2,if_neg h3,if_pos h4]
 .unfold jT rh;rw[hy,if_neg h1,if_neg h2,if_neg h3,if_neg h4',if_pos h5]
 .by_cases hj':j<i
  .exact hfit j hj'
  .obtain rfl:j=i:=U;unfold jT rh;rw[hy,if_neg h1,if_neg h2,if_neg h3,if_neg h4',if_neg h5]
end
end Eva
end
section
open Go Go.RowKit
def jU (d:Int) (st:List (Int×Int)):List Nat:=d.toNat :: st.map λs=>s.1.toNat
theorem Ch {na:Nat}{d cap lim:Int}{st:List (Int×Int)}(J:gW na d cap lim st):ints (jU d st)=d :: st.map λs=>s.1:=by
 unfold jU ints;rw[List.map_cons,Int.toNat_of_nonneg J.d_.1,List.map_map]
 congr 1
 exact List.map_congr_left λs hs=>Int.toNat_of_nonneg (J.st_ s hs).1.1
theorem AE {na:Nat}{d cap lim:Int}{st:List (Int×Int)}(J:gW na d cap lim st):∀t∈jU d st,t<na:=by
 intro t ht;unfold jU at ht;rcases List.mem_cons.1 ht with rfl | ht
 .have:=J.d_;omega
 .obtain⟨s,hs,rfl⟩:=List.mem_map.1 ht;have:=(J.st_ s hs).1;omega
namespace Eva
theorem Li:tf Tryz.prog 57 2 16=true:=by kernel_rfl
section
variable {h h' h0:AH}{Q:Value->AH->Prop}{E F:Nat->Prop}{A:Option Addr}{n K na:Nat}{d cap lim:Int}{st:List (Int×Int)}
theorem Sz.pair {xs:List (Int×Int)}(hs:Sz jo F h A n K xs){k:Nat}(hk:k<n):∃b o x y,A=ω ⟨b,o,ξ⟩/\F b/\b<h.next/\xs[k]? = ω (x,y)/\ldC h b (o+k*2)=ω (ψ η x)/\ldC h b (o+k*2+1)=ω (ψ η y):=by
 obtain⟨b,o,x,cs,hA,hF,hb,hx,hc,hr⟩:=hs.get hk;have hr':cs = [ψ η x.1,ψ η x.2]:=hr;have h0:=hc 0 (ψ η x.1) (by rw[hr'];rfl);have h1:=hc 1 (ψ η x.2) (by rw[hr'];rfl);exact⟨b,o,x.1,x.2,hA,hF,hb,hx,by simpa[Rc.pair]using h0,by simpa[Rc.pair,Nat.add_assoc]using h1⟩
theorem xw {g c B L:Nat}{x:Int}{xs:List Int}{rest:List Value}(hb:Bk h g (xs.map (Value.int .i64) ++ rest) 3) (hn:xs.length=n) (hc:rest.length+n=c) (hr:0<rest.length) (hB:ldC h B 0=ω (ψ η x)) (hn':c<100000) :
  ∃h1,ah Tryz.prog h (ω (.slice 3)) (ω (.slice 3)) (Y (ω ⟨g,0,ξ⟩) n (cx c)) (Y (ω ⟨B,0,ξ⟩) 1 L)=ω (Y (ω ⟨g,0,ξ⟩) (n+1) (cx c),h1)/\Bk h1 g ((xs ++ [x]).map (Value.int .i64) ++ rest.drop 1) 3/\h1.next=h.next/\∀b,b≠g->h1.get b=h.get b:=by
 have hap:=fX (P:=Tryz.prog) (h:=h) (e:=3) (size:=1) (bytes:=8) (A:=ω ⟨g,0,ξ⟩) (K:=cx c) (L:=L) (B:=ω ⟨B,0,ξ⟩) (n:=n) (m:=1) (cells:=[ψ η x]) dR rfl (by simp[flat]) (λ_=>⟨B,0,rfl,λj u hj=>by
  match j,hj with
  | 0,hj=>injection hj with hj;subst hj;exact hB⟩) U U
 have hble:Nat.ble (n+1) (cx c / 2)=true:=Nat.ble_eq_true_of_le (by unfold cx;omega);rw[hble]at hap;simp only[cond_true]at hap;obtain⟨hh,q1,q2,q3,q4⟩:=ax (v:=ψ η x) hb (o:=n) (by simp;omega) rfl;have hadd:(⟨g,0,ξ⟩:Addr).add (n*1)=⟨g,n,ξ⟩:=by
  rw[Nat.mul_one];unfold Addr.add
  split
  .rename_i h0;subst h0;rfl
  .simp
 have hst:bM h ((⟨g,0,ξ⟩:Addr).add (n*1)) [ψ η x]=ω hh:=by rw[hadd];exact q1
 refine⟨hh,?_,?_,q3,q4⟩
 .rw[hap];unfold ly;simp only[show Nat.beq 1 0=false from rfl,cond_false,hst]
 .obtain⟨r0,rs,hr⟩:∃r0 rs,rest=r0 :: rs:=by
   cases hrest:rest with
   | nil=>rw[hrest]at hr;simp at hr
   | cons a l=>exact⟨a,l,rfl⟩
  subst hr;rw[List.set_append_right _ _ (by simp;omega)]at q2;have hz:n - (xs.map (Value.int .i64)).length=0:=by simp;omega
  rw[hz]at q2;simpa using q2
theorem Gp (J:gW na d cap lim st) (s:Sa jo E h A n K st) (hK:∀g h',Bk h' g ((ints (jU d st)).map (Value.int .i64)) 3->h.next<=g->g<h'.next->Nw h h'->Q (Y (ω ⟨g,0,ξ⟩) (n+1) (cx (n+1))) h') :
  WC Tryz.prog 28 [.agg #[ψ η d,ψ η cap,ψ η lim,Y A n K]] h Q:=by
 have hsl:=s.len;have hn:n<=10:=by rw[<-hsl];exact J.few
 rw[Ch J]at hK;refine uK λh1 e1=>?_;obtain⟨k1,z1,ld⟩:=mw e1;obtain⟨l0,-,-,l3,-⟩:=ld h1 (Nw.refl _);refine⟨_,_,_,l3,_,ae U U,n+1,rfl,Nat.zero_le _,U,λh2 e2=>?_⟩;obtain⟨k2,g2,z2⟩:=aj e2;rw[aQ]at g2;refine⟨_,(ld h2 k2).1,λh3 e3=>?_⟩;obtain⟨k3,g3,z3⟩:=aj e3;have g2':Bk h3 h1.next (([]:List Int).map (Value.int .i64) ++ List.replicate (n+1) (ψ η 0)) 3:=k3.bk U g2;obtain⟨h4,y1,y2,y3,y4⟩:=xw (L:=2) (c:=n+1) g2' rfl (by simp) (by simp) (aa g3 rfl) U;have k14:Nw h1 h4:=⟨U,λb hb=>(y4 b U).trans ((k2.trans k3).get b hb)⟩;refine⟨_,_,_,h4,y1,_,_,_,(ld h4 k14).2.2.2.1,λm A5 n5 K5 x h5=>∃i:Nat,A5=ω ⟨h1.next,0,ξ⟩/\n5=i+1/\K5=cx (n+1)/\x=i/\i<=n/\m=n - i/\Bk h5 h1.next ((d :: (st.take i).map λs=>s.1).map (Value.int .i64) ++ List.replicate (n - i) (ψ η 0)) 3/\Nw h1 h5/\h1.next<h5.next,n,⟨0,rfl,rfl,rfl,rfl,Nat.zero_le _,rfl,by simpa using y2,k14,U⟩,?_⟩;rintro m A5 n5 K5 x h5 ⟨i,rfl,rfl,rfl,rfl,hi,rfl,b5,k5,l5⟩;refine⟨λhlt=>?_,λhge=>?_⟩
 .have hil:i<n:=U;obtain⟨b,o,x,y,hA,-,-,hx,e2,e3⟩:=(s.nw (k1.trans k5)).pair hil;refine⟨i,rfl,b,o,hA,hil,x,y,kT e2 e3,λh6 e6=>?_⟩;obtain⟨h7,s7,k7,g7,z7⟩:=aD (vs:=[ψ η x,ψ η y]) e6 rfl (cR rfl rfl);refine⟨h7,s7,x,aa g7 rfl,λh8 e8=>?_⟩;obtain⟨k8,g8,z8⟩:=aj e8;obtain⟨h9,y1,y2,y3,y4⟩:=xw (L:=2) (n:=i+1) (c:=n+1) ((k7.trans k8).bk l5 b5) (by simp;omega) (by simp;omega) (by simp;omega) (aa g8 rfl) U;have z5:=k5.next;refine⟨_,_,_,h9,y1,_,ae U U,n - (i+1),U,i+1,rfl,rfl,rfl,U,hil,rfl,?_,⟨U,λb hb=>(y4 b U).trans (((k5.trans k7).trans k8).get b hb)⟩,U⟩;rw[List.take_add_one,hx,List.map_append,<-List.cons_append];rw[List.drop_replicate,show n - i - 1=n - (i+1) by omega]at y2;exact y2
 .obtain rfl:i=n:=U;rw[Nat.sub_self,List.replicate_zero,List.append_nil,List.take_of_length_le U]at b5;have z1':=k1.next;exact hK h1.next h5 b5 U l5 (k1.trans k5)
theorem Ci (s:Sz jo E h A n K st) (hn10:n<=10) (hna:na<=1000) (hK:∀A' n' K' (e:Int) h',Nw h h'->(e=0->gW na d cap lim st)->Q (.agg #[Y A' n' K',ψ η e]) h') :
  WC Tryz.prog 7 [ψ η na,.agg #[ψ η d,ψ η cap,ψ η lim,Y A n K]] h Q:=by
 have hsl:=s.len;refine nJ λh1 e1 h2 e2=>?_;obtain⟨k1,z1,ld⟩:=mw e1;obtain⟨k2,g2,z2⟩:=aj e2;obtain⟨l0,l1,l2,l3,-⟩:=ld h2 k2;have k12:=k1.trans k2;have fin:∀{h3}(A':Option Addr) (n' K':Nat) (e:Int),Nw h2 h3->(e=0->gW na d cap lim st)->∃h4:AH,j0 h3 h1.next 0 [Y A' n' K',ψ η e]=ω h4/\∃A6 n6 K6 x2,aB h4 h1.next 0 2=ω [Y A6 n6 K6,ψ η x2]/\Q (.agg #[Y A6 n6 K6,ψ η x2]) h4:=fun {h3} A' n' K' e k3 he=>by
  obtain⟨h4,s4,b4,z4,o4⟩:=dh (vs:=[Y A' n' K',ψ η e]) (k3.bk U g2) rfl (by simp[flat]);have z3:=k3.next;exact⟨h4,s4,_,_,_,_,bo b4 (by simp),hK A' n' K' e h4 ⟨U,λz hz=>(o4 z U).trans ((k12.trans k3).get z hz)⟩ he⟩
 have err:∀{h3}{s:ByteArray}{x e:Int},Nw h2 h3->e≠0->WC Tryz.prog 12 [.string s,ψ η x,ψ η e] h3 (λv1 h3=>∃A5 n5 K5 x1,v1 = .agg #[Y A5 n5 K5,ψ η x1]/\∃h4:AH,j0 h3 h1.next 0 [Y A5 n5 K5,ψ η x1]=ω h4/\∃A6 n6 K6 x2,aB h4 h1.next 0 2=ω [Y A6 n6 K6,ψ η x2]/\Q (.agg #[Y A6 n6 K6,ψ η x2]) h4):=fun {h3 s x e} k3 he=>
  IF λA' h4 _ k4=>⟨_,_,_,_,rfl,fin _ _ _ _ (k3.trans k4) λh=>absurd h he⟩
 refine⟨_,l0,λ_=>err (Nw.refl _) U,λq1=>⟨_,l0,λ_=>err (Nw.refl _) U,λq2=>⟨_,l1,λ_=>err (Nw.refl _) U,λq3=>⟨_,l1,λ_=>err (Nw.refl _) U,λq4=>⟨_,l2,λ_=>err (Nw.refl _) U,λq5=>⟨_,l2,λ_=>err (Nw.refl _) U,λq6=>⟨_,_,_,l3,λ_=>err (Nw.refl _) U,λq7=>⟨λm x h3=>∃i:Nat,x=i/\i<=n/\m=n - i/\Nw h2 h3/\∀s∈st.take i,(0<=s.1/\s.1<na)/\0<=s.2/\s.2<=2147483648,n,⟨0,rfl,Nat.zero_le _,rfl,Nw.refl _,λs hs=>by simp at hs⟩,?_⟩⟩⟩⟩⟩⟩⟩⟩;rintro m x h3 ⟨i,rfl,hi,rfl,k3,hok⟩;obtain⟨-,-,-,l3',-⟩:=ld h3 (k2.trans k3);refine⟨_,_,_,l3',λhlt=>?_,λhge=>?_⟩
 .have hil:i<n:=U;obtain⟨b,o,x,y,hA,-,-,hx,e2,e3⟩:=(s.nw (k12.trans k3)).pair hil;refine⟨_,_,_,l3',i,rfl,b,o,hA,hil,x,y,kT e2 e3,λh4 e4=>?_⟩;obtain⟨h5,s5,k5,g5,z5⟩:=aD (vs:=[ψ η x,ψ η y]) e4 rfl (cR rfl rfl);have k35:=k3.trans k5;have w1:IntKind.i64.wrap ((i:Int)+1)=((i+1:Nat):Int):=ae U U;refine⟨h5,s5,x,aa g5 rfl,λ_=>⟨_,w1,err k35 U⟩,λp1=>⟨x,aa g5 rfl,λ_=>⟨_,w1,err k35 U⟩,λp2=>⟨y,aa g5 rfl,λ_=>⟨_,w1,err k35 U⟩,λp3=>⟨y,aa g5 rfl,λ_=>⟨_,w1,err k35 U⟩,λp4=>⟨_,w1,n - (i+1),U,i+1,rfl,hil,rfl,k35,λs hs=>?_⟩⟩⟩⟩⟩;rw[List.take_add_one,hx,List.mem_append]at hs;rcases hs with hs | hs
  .exact hok s hs
  .obtain rfl:s=(x,y):=by simpa using hs
   exact⟨⟨Int.not_lt.1 p1,Int.not_le.1 p2⟩,Int.not_lt.1 p3,Int.not_lt.1 p4⟩
 .obtain rfl:i=n:=U;rw[List.take_of_length_le U]at hok;exact fin _ _ _ _ k3 λ_=>⟨⟨U,U⟩,⟨U,U⟩,⟨U,U⟩,U,hok⟩
theorem JK (s:Sz jo E h A n K st) (hn10:n<=10) (hK:∀A' K' h',Sa jo (λb=>h.next<=b) h' A' n K' st->Nw h h'->Q (.agg #[ψ η d,ψ η cap,ψ η lim,Y A' n K']) h') :
  WC Tryz.prog 9 [.agg #[ψ η d,ψ η cap,ψ η lim,Y A n K]] h Q:=by
 have hsl:=s.len;refine yI λh1 e1 h2 e2=>?_;obtain⟨k1,z1,ld⟩:=mw e1;obtain⟨k2,g2,z2⟩:=aj e2;obtain⟨l0,l1,l2,l3,-⟩:=ld h2 k2;refine⟨_,l0,_,l1,_,l2,λh3 e3=>?_⟩;obtain⟨h4,s4,k4,g4,z4⟩:=aD (vs:=[ψ η d,ψ η cap,ψ η lim,Y ξ 0 0]) e3 rfl (by simp[flat]);obtain⟨kb,hkb⟩:∃kb,kb=h2.next:=⟨_,rfl⟩;rw[<-hkb]at s4 g4⊢;refine⟨h4,s4,λm x h5=>∃(i:Nat) (A':Option Addr) (K':Nat),x=i/\i<=n/\m=n - i/\Bk h5 kb [ψ η d,ψ η cap,ψ η lim,Y A' i K'] 48/\ay jo h5 (ai A') 57 A' i K' (st.take i)/\(∀b,ai A' b->kb<b)/\kb<h5.next/\∀b,b<kb->h5.get b=h2.get b,n,⟨0,ξ,0,rfl,Nat.zero_le _,rfl,g4,ay.nil _ _ _ _,λb hb=>hb.elim,U,λb hb=>k4.get b U⟩,?_⟩;rintro m x h5 ⟨i,A',K',rfl,hi,rfl,b5,o5,lo5,lt5,q5⟩;have k25:Nw h2 h5:=⟨U,λb hb=>q5 b U⟩;have k05:=(k1.trans k2).trans k25;obtain⟨-,-,-,l3',-⟩:=ld h5 (k2.trans k25);refine⟨_,_,_,l3',λhlt=>?_,λhge=>?_⟩
 .have hil:i<n:=U;obtain⟨b,o,x,y,hA,-,-,hx,e2,e3⟩:=(s.nw k05).pair hil;refine⟨_,_,_,aa b5 rfl,_,_,_,l3',i,rfl,b,o,hA,hil,x,e2,_,_,_,l3',b,o,hA,hil,y,e3,λh6 e6=>?_⟩;obtain⟨k6,g6,z6⟩:=aj e6;have hz:Sz jo (λz=>z=h5.next) h6 (ω ⟨h5.next,0,ξ⟩) 1 2 [(x,y)]:=Sz.one g6 rfl U rfl rfl;obtain⟨A6,K6,h7,y1,y2,y3,y4⟩:=bq (tj _ _) (r:=jo) Li (o5.nw k6) hz U U;have z7:=y3.next;have b7:=y3.bk U (λho=>by have:=lo5 _ ho;omega) (k6.bk lt5 b5);obtain⟨h8,s8,b8,z8,o8⟩:=ax (v:=Y A6 (i+1) K6) b7 (o:=3) (by simp) rfl;refine⟨A6,i+1,K6,h7,y1,h8,s8,_,ae U U,n - (i+1),U,i+1,A6,K6,U,hil,rfl,b8,?_,λb hb=>(y4 b hb).elim (lo5 b) λh=>U,U,λb hb=>(o8 b U).trans ((y3.get b U (λho=>by have:=lo5 _ ho;omega)).trans ((k6.get b U).trans (q5 b hb)))⟩;rw[List.take_add_one,hx];exact y2.keep (λb hb _=>o8 b λe=>by have:=(y4 b hb).elim (lo5 b) (λh=>U);omega) U
 .obtain rfl:i=n:=U;rw[List.take_of_length_le U]at o5;have b1:Bk h5 h1.next _ _:=k25.bk U g2;obtain⟨h9,s9,b9,z9,o9⟩:=dh (vs:=[ψ η d,ψ η cap,ψ η lim,Y A' i K']) b1 rfl (by simp[flat]);have z1':=k1.next;refine⟨_,_,_,_,_,_,bo b5 (by simp),h9,s9,_,_,_,_,_,_,bo b9 (by simp),hK A' K' h9 ((o5.sa.keep (λb hb _=>o9 b (by have:=lo5 b hb;omega)) U).mono λb hb _=>by have:=lo5 b hb;omega) ⟨U,λb hb=>(o9 b U).trans (k05.get b hb)⟩⟩
end
end Eva
end
section
open Go Go.RowKit
namespace Eva
end Eva
end
section
open Go Go.RowKit
end
section
open Go Go.RowKit
namespace Eva
end Eva
end
section
open Go Go.RowKit
namespace Eva
end Eva
end
section
open Go Go.RowKit
namespace Eva
end Eva
end
section
open Go Go.RowKit
namespace Eva
end Eva
end
section
open Go Go.RowKit
namespace Eva
section
variable {h h':AH}{Q:Value->AH->Prop}{F G:Nat->Prop}{A B:Option Addr}{n m K L g c:Nat}{xs zs:List Int}
theorem Gq {b:Nat}(o:cr h (ω ⟨b,0,ξ⟩) n K xs):Sa cI (λz=>z=b) h (ω ⟨b,0,ξ⟩) n K xs:=by
 obtain⟨hl,o⟩:=o;rcases o with⟨h0,_,_⟩ | ⟨g,c,rest,hA,h1,h2,h3,h4,h5⟩
 .cases h0
 .injection hA with hA;injection hA with hA;subst hA;refine Sa.of_bk h5 hl rfl h1 λk x hx=>?_;show(((xs.map (Value.int .i64) ++ rest).drop (k*1)).take 1)=_;rw[Nat.mul_one];have hk:=(List.getElem?_eq_some_iff.1 hx).1;exact du (by rw[List.getElem?_append_left (by simpa using hk)];simp[hx])
theorem cr.apps (o:cr h (ω ⟨g,0,ξ⟩) n (cl c) xs) (hz:Sz cI F h B m L zs) (hr:n+m<=c) (hc:c<8000000000000) :
  ∃h1,ah Tryz.prog h (ω (.slice 3)) (ω (.slice 3)) (Y (ω ⟨g,0,ξ⟩) n (cl c)) (.slice B m L)=ω (Y (ω ⟨g,0,ξ⟩) (n+m) (cl c),h1)/\cr h1 (ω ⟨g,0,ξ⟩) (n+m) (cl c) (xs ++ zs)/\h1.next=h.next/\∀b,b≠g->h1.get b=h.get b:=by
 have hzl:=hz.len;have hble:Nat.ble (n+m) (cl c / 2)=true:=Nat.ble_eq_true_of_le (by unfold cl;omega);rcases Nat.eq_zero_or_pos m with h0 | h0
 .subst h0;have hzs:zs = []:=List.eq_nil_of_length_eq_zero hzl;subst hzs;have hap:=fX (P:=Tryz.prog) (h:=h) (e:=3) (size:=1) (bytes:=8) (A:=ω ⟨g,0,ξ⟩) (K:=cl c) (L:=L) (B:=B) (n:=n) (m:=0) (cells:=[]) dR rfl (by simp) (λh=>absurd h U) U U;rw[hble]at hap;exact⟨h,hap.trans rfl,by rw[List.append_nil];exact o,rfl,λ_ _=>rfl⟩
 .obtain⟨b,ob,cells,rfl,hFb,hblt,hcl,hcc,hcf,hcr⟩:=hz.cells h0;have hce:cells=zs.map (Value.int .i64):=by
   apply List.ext_getElem?;intro i;have hcl':cells.length=m:=by rw[hcl];exact Nat.mul_one m
   by_cases hi:i<m
   .have hx:zs[i]? = ω (zs[i]' U):=List.getElem?_eq_getElem _;have h8:(cells.drop (i*1)).take 1 = [ψ η (zs[i]' U)]:=hcr i _ hx;rw[List.getElem?_map,hx];have h9:=congrArg (λl=>l[0]?) h8;simpa using h9
   .rw[List.getElem?_eq_none U,List.getElem?_eq_none (by simp;omega)]
  have hap:=fX (P:=Tryz.prog) (h:=h) (e:=3) (size:=1) (bytes:=8) (A:=ω ⟨g,0,ξ⟩) (K:=cl c) (L:=L) (B:=ω ⟨b,ob,ξ⟩) (n:=n) (m:=m) (cells:=cells) dR hcl hcf (λ_=>⟨b,ob,rfl,hcc⟩) U U;rw[hble]at hap;simp only[cond_true]at hap;obtain⟨hl,o⟩:=o;rcases o with⟨q0,_,_⟩ | ⟨g',c',rest,hA,h1,h2,h3,h4,h5⟩
  .cases q0
  .injection hA with hA;injection hA with hA;subst hA;obtain rfl:c' = c:=by unfold cl at h2;omega
   have hadd:(⟨g,0,ξ⟩:Addr).add (n*1)=⟨g,n,ξ⟩:=by
    rw[Nat.mul_one];unfold Addr.add
    split
    .rename_i h0;subst h0;rfl
    .simp
   have hcl':cells.length=m:=by rw[hcl];exact Nat.mul_one m
   have hst:j0 h g n cells=ω (h.put g (.cells ((xs.map (Value.int .i64) ++ rest).take n ++ cells ++ (xs.map (Value.int .i64) ++ rest).drop (n+cells.length)) 3 false)):=GW h5 (by rw[List.length_append,List.length_map];omega) hcf;have hst':bM h ((⟨g,0,ξ⟩:Addr).add (n*1)) cells=ω (h.put g (.cells ((xs.map (Value.int .i64) ++ rest).take n ++ cells ++ (xs.map (Value.int .i64) ++ rest).drop (n+cells.length)) 3 false)):=by rw[hadd];exact hst
   have hb0:Nat.beq m 0=false:=by
    cases hb:Nat.beq m 0 with
    | false=>rfl
    | true=>have:=aq hb;omega
   obtain⟨hh,hhe⟩:∃hh,h.put g (.cells ((xs.map (Value.int .i64) ++ rest).take n ++ cells ++ (xs.map (Value.int .i64) ++ rest).drop (n+cells.length)) 3 false)=hh:=⟨_,rfl⟩;rw[hhe]at hst';refine⟨hh,?_,⟨by rw[List.length_append,hl,hzl],.inr ⟨g,c',rest.drop m,rfl,by rw[<-hhe];exact h1,rfl,h3,by rw[List.length_drop];omega,?_⟩⟩,by rw[<-hhe];rfl,λb hb=>by rw[<-hhe,get_put,if_neg hb]⟩
   .rw[hap];unfold ly;simp only[hb0,cond_false,hst']
   .have e:(xs.map (Value.int .i64) ++ rest).take n ++ cells ++ (xs.map (Value.int .i64) ++ rest).drop (n+cells.length)=(xs ++ zs).map (Value.int .i64) ++ rest.drop m:=by
     have e1:(xs.map (Value.int .i64)).length=n:=by rw[List.length_map];exact hl
     rw[List.take_append_of_le_length U,List.take_of_length_le U,List.drop_append,List.drop_eq_nil_of_le U,List.nil_append,hcl',e1,Nat.add_sub_cancel_left,hce,List.map_append]
    rw[Bk,<-hhe,get_put,if_pos rfl,e]
set_option maxRecDepth 100000 in
theorem EF (hn:0<n) (hb:n<8000000000000):ah Tryz.prog h (ω (.slice 3)) (ω (.int .i64)) (Y ξ 0 0) (ψ η (n:Int))=ω (Y (ω ⟨h.next,0,ξ⟩) n (cl n),h.new (.cells (List.replicate n (ψ η 0)) 3 false)):=by
 obtain⟨i,hi,h1,h2,h3,h4,h6,h7,h8⟩:=bg dR;obtain⟨i',hi',hz⟩:=tB;obtain rfl:i' = i:=Option.some.inj (hi'.symm.trans hi);have hnat:bW (ψ η (n:Int))=ω n:=rfl;have hz1:ff (ψ η 0) i'.size=true:=by rw[h1];rfl
 have hb1:Nat.blt n 70000000000000=true:=Nat.ble_eq_true_of_le U;have hsrc:pu i' (bW (ψ η (n:Int)))=ω (n,List.replicate n (ψ η 0)):=by
  rw[hnat];unfold pu;rw[hz];simp only[hz1,hb1,Bool.and_self,cond_true];rw[<-aQ];rfl
 have hble:Nat.ble (0+n) (0 / 2)=false:=by
  cases hb:Nat.ble (0+n) (0 / 2) with
  | false=>rfl
  | true=>exact absurd (Nat.le_of_ble_eq_true hb) U
 have hk:=zZ (h:=h) (e:=3) (A:=ξ) (K:=0) (n:=0) (m:=n) (cells:=List.replicate n (ψ η 0)) h1 h2 h6 h7 h8 (by simp) (λu hu=>by rw[List.eq_of_mem_replicate hu];rfl) U U;rw[hble]at hk;unfold ah;simp only[hi,pO,cond_true];unfold pt;rw[hsrc];simp only;rw[hk];simp only[cond_false];unfold fZ;rfl
theorem Ii (hn:0<n) (hb:n<8000000000000) (hK:∀h',cr h' (ω ⟨h.next,0,ξ⟩) 0 (cl n) []->Nw h h'->h'.next=h.next+1->Q (Y (ω ⟨h.next,0,ξ⟩) 0 (cl n)) h'):WC Tryz.prog 143 [Y ξ 0 0,ψ η n] h Q:=by
 obtain⟨k1,g1,z1⟩:=aj (h:=h) (ao:=.cells (List.replicate n (ψ η 0)) 3 false) rfl;have o:cr (h.new (.cells (List.replicate n (ψ η 0)) 3 false)) (ω ⟨h.next,0,ξ⟩) n (cl n) (List.replicate n 0):=⟨by simp,.inr ⟨h.next,n,[],rfl,U,rfl,hn,by simp,by rw[List.append_nil,List.map_replicate];exact g1⟩⟩;have oc:=o.cut0;refine cQ ⟨λh=>absurd h U,λ_=>⟨by rfl,0,rfl,n,by rw[Int.sub_zero];exact ae U U,λ_=>⟨by rfl,ξ,0,0,by kernel_rfl,_,_,_,_,EF hn hb,_,_,_,oc.2,hK _ oc.1 k1 z1⟩,λh=>absurd U h⟩⟩
end
end Eva
end
section
open Go Go.RowKit
namespace Eva
theorem zc:tf Tryz.prog 58 1 24=true:=by kernel_rfl
theorem II {e:TypeId}{bytes:Nat}(h:tf Tryz.prog e 1 bytes=true):∃i,Tryz.prog.info? e=ω i/\i.size=1:=by
 obtain⟨q,q1,q2,-⟩:=bg h;exact⟨q,q1,q2⟩
def Rc.val:Rc Value where
 size:=1
 rel:=λ_ _ cs v=>cs = [v]/\Eva.flat v=true
 len:=λh=>by rw[h.1];rfl
 flat:=λh u hu=>by rw[h.1]at hu;simp at hu;subst hu;exact h.2
 keep:=λ_ _ h=>h
 mono:=λ_ h=>h
theorem EH:qN Rc.val:=λh=>h
theorem ri {P:Program}{e:TypeId}(hT:∃i,P.info? e=ω i/\i.size=1){b o n K lo hi:Nat}{l u:Option Nat}(h1:lo<=hi) (h2:hi<=K / 2) (hl:l.getD 0=lo) (hu:u.getD n=hi) :
  ∃A' K',am P e (ω ⟨b,o,ξ⟩) n K l u ξ=ω (Y A' (hi - lo) K')/\(lo<hi->A' = ω ⟨b,o+lo,ξ⟩)/\(lo=0->0<K / 2->A' = ω ⟨b,o,ξ⟩/\K' = K):=by
 obtain⟨i,hi',hsz⟩:=hT;unfold am;rw[hi'];have b1:Nat.ble hi (K / 2)=true:=Nat.ble_eq_true_of_le h2;have b0:Nat.ble lo hi=true:=Nat.ble_eq_true_of_le h1;show ∃A' K',cond (Option.isNone (none:Option Nat) || Option.isSome u) (bS i.size (ω ⟨b,o,ξ⟩) n K (l.getD 0) u ξ) ξ=_/\_;simp only[Option.isNone_none,Bool.true_or,cond_true];unfold bS;simp only[hl,hu,b1,b0,Bool.and_self,cond_true];cases hp:Nat.beq (K % 2) 0 with
 | true=>
  have hp':=aq hp;simp only[cond_true];unfold mO og;rw[hsz,Nat.mul_one];cases hb:Nat.beq (K / 2) lo with
  | true=>
   have:=aq hb;exact⟨_,_,rfl,λh=>U,λh h'=>U⟩
  | false=>
   refine⟨_,_,rfl,λ_=>?_,λh0 h'=>⟨?_,?_⟩⟩
   .simp only[cond_false,Option.map_some];rw[aZ]
   .simp only[cond_false,Option.map_some];rw[aZ,h0,Nat.add_zero]
   .unfold cx;omega
 | false=>
  have hp':K % 2≠0:=λh=>by rw[h]at hp;cases hp
  simp only[cond_false];unfold mP;cases hb:Nat.blt lo (K / 2) with
  | true=>
   refine⟨_,_,rfl,λ_=>?_,λh0 h'=>⟨?_,?_⟩⟩
   .simp only[Option.map_some];rw[hsz,Nat.mul_one,aZ]
   .simp only[Option.map_some];rw[hsz,Nat.mul_one,aZ,h0,Nat.add_zero]
   .unfold cl;omega
  | false=>
   have hlt:¬lo<K / 2:=λh=>by rw[show Nat.blt lo (K / 2)=true from Nat.ble_eq_true_of_le h]at hb;cases hb
   have e0:hi - lo=0:=U;rw[e0];exact⟨_,_,rfl,λh=>U,λh h'=>U⟩
theorem Ij {P:Program}{e:TypeId}(hT:∃i,P.info? e=ω i/\i.size=1){b o n K lo hi m:Nat}(h1:lo<=hi) (h2:hi<=m) (h3:m<=K / 2) :
  ∃A' n' K',am P e (ω ⟨b,o,ξ⟩) n K (ω lo) (ω hi) (ω m)=ω (Y A' n' K'):=by
 obtain⟨i,hi',hsz⟩:=hT;unfold am;rw[hi'];have b1:Nat.ble m (K / 2)=true:=Nat.ble_eq_true_of_le h3;have b2:Nat.ble hi m=true:=Nat.ble_eq_true_of_le h2;have b0:Nat.ble lo hi=true:=Nat.ble_eq_true_of_le h1;show ∃A' n' K',cond (Option.isNone (ω m) || Option.isSome (ω hi)) (bS i.size (ω ⟨b,o,ξ⟩) n K ((ω lo).getD 0) (ω hi) (ω m)) ξ=_;simp only[Option.isSome_some,Bool.or_true,cond_true];unfold bS;simp only[Option.getD_some,b1,b2,b0,Bool.and_self,cond_true];exact⟨_,_,_,rfl⟩
theorem zd {h:AH}{g o m:Nat}{cells:List Value}{L:Nat}(hb:Bk h g cells 58) (ho:o+m<=cells.length) (h0:0<m) :
  ∃h',fi Tryz.prog h (ω (.slice 58)) (Y (ω ⟨g,o,ξ⟩) m L)=ω (.tuple #[],h')/\Bk h' g (cells.take o ++ List.replicate m (Y ξ 0 0) ++ cells.drop (o+m)) 58/\h'.next=h.next/\∀b,b≠g->h'.get b=h.get b:=by
 have hz:∃i,Tryz.prog.info? 58=ω i/\i.zero=ω (Y ξ 0 0)/\i.size=1:=by
  obtain⟨i,hi,hs,-⟩:=bg zc;refine⟨i,hi,?_,hs⟩;have:(match Tryz.prog.info? 58 with | some i=>i.zero | none=>ξ)=ω (Y ξ 0 0):=by kernel_rfl
  rw[hi]at this;exact this
 obtain⟨i,hi,hz,hs⟩:=hz;unfold fi;simp only[hi,hz,hs];have zo:ff (Value.slice ξ 0 0) 1=true:=by kernel_rfl
 rw[zo];simp only[cond_true];have hb0:Nat.beq m 0=false:=by
  cases hb0:Nat.beq m 0 with
  | false=>rfl
  | true=>have:=aq hb0;omega
 rw[hb0];simp only[cond_false];have e1:dD m ((Value.slice ξ 0 0).cells.toList)=List.replicate m (Value.slice ξ 0 0):=aQ _ _;rw[e1];have hst:bM h ⟨g,o,ξ⟩ (List.replicate m (Value.slice ξ 0 0))=_:=GW hb (by rw[List.length_replicate];exact ho) (λv hv=>by rw[List.eq_of_mem_replicate hv];rfl);rw[hst];refine⟨_,rfl,?_,rfl,λb hb=>by rw[get_put,if_neg hb]⟩;rw[List.length_replicate];show(h.put g _).get g=_;rw[get_put,if_pos rfl]
def jV (G:Nat->Prop) (h:AH) (v:Value) (r:List Int):Prop:=∃A n K,v = Y A n K/\n<=K / 2/\Sa cI G h A n K r
structure RR (h:AH) (G:Nat->Prop) (A:Option Addr) (n K:Nat) (R:List (List Int)):Prop where
 len:R.length=n
 cap:n<=K / 2
 shape:(A=ξ/\n=0/\K=0)\/∃b,A=ω ⟨b,0,ξ⟩/\b<h.next/\¬G b
 at_:0<n->∃(g:Nat) (vs rest:List Value),A=ω ⟨g,0,ξ⟩/\g<h.next/\¬G g/\Bk h g (vs ++ rest) 58/\vs.length=n/\∀(i:Nat) (r:List Int),R[i]? = ω r->∃v,vs[i]? = ω v/\jV G h v r
section
variable {h h' h0:AH}{Q:Value->AH->Prop}{G G':Nat->Prop}{A:Option Addr}{n K g:Nat}{R:List (List Int)}{v:Value}{r:List Int}
theorem jV.keep (q:jV G h v r) (hk:∀b,G b->b<h.next->h'.get b=h.get b) (hn:h.next<=h'.next):jV G h' v r:=by
 obtain⟨A,n,K,e,c,s⟩:=q;exact⟨A,n,K,e,c,s.keep hk hn⟩
theorem jV.mono (q:jV G h v r) (hG:∀b,G b->b<h.next->G' b):jV G' h v r:=by
 obtain⟨A,n,K,e,c,s⟩:=q;exact⟨A,n,K,e,c,s.mono hG⟩
theorem jV.flat (q:jV G h v r):flat v=true:=by
 obtain⟨A,n,K,rfl,c,s⟩:=q;rfl
theorem RR.keep (q:RR h G A n K R) (hk:∀b,G b\/ai A b->b<h.next->h'.get b=h.get b) (hn:h.next<=h'.next):RR h' G A n K R:=by
 refine⟨q.len,q.cap,q.shape.imp id λ⟨b,e,l,ng⟩=>⟨b,e,U,ng⟩,λh0=>?_⟩;obtain⟨g,vs,rest,rfl,h1,h2,h3,h4,h5⟩:=q.at_ h0;refine⟨g,vs,rest,rfl,U,h2,(hk g (.inr rfl) h1).trans h3,h4,λi r hr=>?_⟩;obtain⟨v,hv,q⟩:=h5 i r hr;exact⟨v,hv,q.keep (λb hb=>hk b (.inl hb)) hn⟩
theorem RR.nw (q:RR h G A n K R) (a:Nw h h'):RR h' G A n K R:=q.keep (λb _ hb=>a.get b hb) a.next
theorem RR.off {S:Nat->Prop}(q:RR h G A n K R) (a:Mt S h h') (hS:∀b,G b\/ai A b->¬S b):RR h' G A n K R:=q.keep (λb hG hb=>a.get b hb (hS b hG)) a.next
theorem RR.mono (q:RR h G A n K R) (hG:∀b,G b->b<h.next->G' b) (hA:∀b,ai A b->¬G' b):RR h G' A n K R:=by
 refine⟨q.len,q.cap,q.shape.imp id λ⟨b,e,l,ng⟩=>⟨b,e,l,hA b (by rw[e];rfl)⟩,λh0=>?_⟩;obtain⟨g,vs,rest,rfl,h1,h2,h3,h4,h5⟩:=q.at_ h0;refine⟨g,vs,rest,rfl,h1,hA g rfl,h3,h4,λi r hr=>?_⟩;obtain⟨v,hv,q⟩:=h5 i r hr;exact⟨v,hv,q.mono hG⟩
theorem RR.sa (q:RR h G A n K R):Sa aM (λb=>G b\/ai A b) h A n K R:=by
 refine⟨q.len,q.shape.imp id λ⟨b,e,_,_⟩=>⟨b,0,e⟩,λh0=>?_⟩;obtain⟨g,vs,rest,rfl,h1,h2,h3,h4,h5⟩:=q.at_ h0;refine⟨g,0,rfl,.inr rfl,h1,λi r hr=>?_⟩;obtain⟨v,hv,A,n',K',rfl,c,s⟩:=h5 i r hr;refine⟨_,λj u hj=>?_,A,n',K',rfl,s.mono λb hb _=>.inl hb⟩
 match j,hj with
 | 0,hj=>
  obtain rfl:=Option.some.inj hj;show ldC h g (0+(i*1+0))=_;rw[aJ h3,Nat.zero_add,Nat.mul_one,Nat.add_zero,List.getElem?_append_left (List.getElem?_eq_some_iff.1 hv).1,hv]
theorem RR.row (q:RR h G A n K R){i:Nat}(hi:i<n):∃g A' n' K' r,A=ω ⟨g,0,ξ⟩/\g<h.next/\R[i]? = ω r/\ldC h g (0+i)=ω (Y A' n' K')/\n'<=K' / 2/\Sa cI G h A' n' K' r:=by
 obtain⟨g,vs,rest,rfl,h1,h2,h3,h4,h5⟩:=q.at_ U;obtain⟨r,hr⟩:∃r,R[i]? = ω r:=⟨_,List.getElem?_eq_getElem (by rw[q.len];exact hi)⟩;obtain⟨v,hv,A,n',K',rfl,c,s⟩:=h5 i r hr;refine⟨g,A,n',K',r,rfl,h1,hr,?_,c,s⟩;rw[aJ h3,Nat.zero_add,List.getElem?_append_left U,hv]
theorem RR.set (q:RR h G (ω ⟨g,0,ξ⟩) n K R){i:Nat}(hi:i<n) (qv:jV G h v r):∃h',j0 h g (0+i) [v]=ω h'/\RR h' G (ω ⟨g,0,ξ⟩) n K (R.set i r)/\h'.next=h.next/\∀b,b≠g->h'.get b=h.get b:=by
 obtain⟨g',vs,rest,hA,h1,h2,h3,h4,h5⟩:=q.at_ U;injection hA with hA;injection hA with hA;subst hA;obtain⟨h',s,b,z,o⟩:=ax (v:=v) h3 (o:=0+i) (by rw[List.length_append];omega) qv.flat;have kp:∀{v r},jV G h v r->jV G h' v r:=fun {v r} q=>q.keep (λb hb _=>o b λe=>h2 (e ▸ hb)) U;refine⟨h',s,⟨by rw[List.length_set];exact q.len,q.cap,.inr ⟨g,rfl,U,h2⟩,λ_=>⟨g,vs.set i v,rest,rfl,U,h2,?_,by rw[List.length_set];exact h4,λj r' hr'=>?_⟩⟩,z,o⟩
 .rw[Nat.zero_add,List.set_append_left _ _ U]at b;exact b
 .rw[List.getElem?_set]at hr';by_cases e:i=j
  .subst e;rw[if_pos rfl,if_pos (by rw[q.len];exact hi)]at hr';obtain rfl:=Option.some.inj hr';exact⟨v,by rw[List.getElem?_set,if_pos rfl,if_pos U],kp qv⟩
  .rw[if_neg e]at hr';obtain⟨v',hv',q'⟩:=h5 j r' hr';exact⟨v',by rw[List.getElem?_set,if_neg e];exact hv',kp q'⟩
theorem xy (q:RR h G A n K R) (hn:n<=1000) (hK:∀A' K' h',RR h' (λb=>G b/\b<h.next) A' n K' R->(∀b,ai A' b->h.next<=b)->Nw h h'->Q (Y A' n K') h'):WC Tryz.prog 77 [Y A n K] h Q:=by
 refine jR ⟨λhA=>?_,λhA=>?_⟩
 .rcases q.shape with⟨h0,h1,h2⟩ | ⟨b,h0,-,-⟩
  .subst h0 h1 h2;exact⟨rfl,rfl,hK ξ 0 h ⟨q.len,Nat.le_refl _,.inl ⟨rfl,rfl,rfl⟩,λh=>absurd h (Nat.lt_irrefl _)⟩ (λb hb=>hb.elim) (Nw.refl _)⟩
  .rw[h0]at hA;cases hA
 .obtain⟨b,rfl⟩:∃b,A=ω ⟨b,0,ξ⟩:=by
   rcases q.shape with⟨h0,-⟩ | ⟨b,h0,-⟩
   .exact absurd h0 hA
   .exact⟨b,h0⟩
  refine⟨b,0,rfl,λh1 e1=>?_⟩;obtain⟨vs,hvs,hz⟩:∃vs:List Value,(∀(i:Nat) (r:List Int),R[i]? = ω r->∃v,vs[i]? = ω v/\jV G h v r)/\Sz Rc.val (λ_=>True) h (ω ⟨b,0,ξ⟩) n K vs:=by
   rcases Nat.eq_zero_or_pos n with h0 | h0
   .have hR:R = []:=List.eq_nil_of_length_eq_zero (by rw[q.len,h0]);exact⟨[],λi r hr=>by rw[hR]at hr;simp at hr,⟨by rw[h0];rfl,λh=>absurd h U⟩⟩
   .obtain⟨g,vs,rest,hA,h1,h2,h3,h4,h5⟩:=q.at_ h0;injection hA with hA;injection hA with hA;subst hA;refine⟨vs,h5,h4,λ_=>⟨b,0,rfl,trivial,h1,λk x hx=>⟨[x],λj u hj=>?_,rfl,?_⟩⟩⟩
    .match j,hj with
     | 0,hj=>
      obtain rfl:=Option.some.inj hj;show ldC h b (0+(k*1+0))=_;rw[aJ h3,Nat.zero_add,Nat.mul_one,Nat.add_zero,List.getElem?_append_left (List.getElem?_eq_some_iff.1 hx).1,hx]
    .have hk:=(List.getElem?_eq_some_iff.1 hx).1;obtain⟨r,hr⟩:∃r,R[k]? = ω r:=⟨_,List.getElem?_eq_getElem (by rw[q.len];omega)⟩;obtain⟨v,hv,qv⟩:=h5 k r hr;rw[hx]at hv;obtain rfl:=Option.some.inj hv;exact qv.flat
  obtain⟨A',K',h',x1,x2,x3,x4⟩:=nT (r:=Rc.val) (bytes:=24) (t:=58) EH zc hz U U e1;obtain⟨hvl,x2⟩:=x2;refine⟨A',n,K',h',x1,hK A' K' h' ⟨q.len,?_,?_,λh0=>?_⟩ x4 x3⟩
  .rcases x2 with⟨-,h0,h1⟩ | ⟨g,cells,-,-,-,-,-,h6,-⟩
   .omega
   .rcases h6 with h6 | h6 <;>rw[h6]
    .unfold cl;omega
    .omega
  .rcases x2 with⟨h0,h1,h2⟩ | ⟨g,cells,h0,-,h2,-⟩
   .exact .inl ⟨h0,h1,h2⟩
   .exact .inr ⟨g,h0,h2,λhb=>by have:=x4 g (by rw[h0];rfl);omega⟩
  .rcases x2 with⟨-,h0',-⟩ | ⟨g,cells,rfl,h1,h2,h3,h4,h5,h6,h7⟩
   .omega
   .have hg:=x4 g rfl;have hc:cells=vs:=by
     apply List.ext_getElem?;intro i;by_cases hi:i<n
     .obtain⟨v,hv⟩:∃v,vs[i]? = ω v:=⟨_,List.getElem?_eq_getElem U⟩;have e:=(h7 i v hv).1;have hl:cells.length=n:=by rw[h4];exact Nat.mul_one n
      have e2:(cells.drop (i*1)).take 1 = [v]:=e;rw[Nat.mul_one]at e2;rw[hv];have e3:=congrArg (λl:List Value=>l[0]?) e2;simp only[List.getElem?_take,List.getElem?_drop]at e3;simpa using e3
     .rw[List.getElem?_eq_none (by rw[h4];show n*1<=i;omega),List.getElem?_eq_none U]
    refine⟨g,vs,[],rfl,h2,λhb=>U,by rw[List.append_nil,<-hc];exact h3,hvl,λi r hr=>?_⟩;obtain⟨v,hv,qv⟩:=hvs i r hr;exact⟨v,hv,(qv.mono λb hb hlt=>(⟨hb,hlt⟩:G b/\b<h.next)).keep (λb hb _=>x3.get b hb.2) x3.next⟩
theorem tG (q:RR h G (ω ⟨g,0,ξ⟩) n K R){k:Nat}(hk:k<n) (hn:n<=1000) (hK:∀h',RR h' G (ω ⟨g,0,ξ⟩) (n - 1) K (R.eraseIdx k)->Mt (λb=>b=g) h h'->h'.next=h.next->Q (Y (ω ⟨g,0,ξ⟩) (n - 1) K) h') :
  WC Tryz.prog 73 [Y (ω ⟨g,0,ξ⟩) n K,ψ η k,ψ η ((k+1:Nat):Int)] h Q:=by
 obtain⟨g',vs,rest,hA,h1,h2,h3,h4,h5⟩:=q.at_ U;injection hA with hA;injection hA with hA;subst hA;have hcap:=q.cap;obtain⟨A2,n2,K2,e2⟩:=Ij (II zc) (b:=g) (o:=0) (n:=n) (K:=K) (lo:=k) (hi:=k+1) (m:=n) U U hcap;obtain⟨A3,K3,e3,-,c3⟩:=ri (II zc) (b:=g) (o:=0) (n:=n) (K:=K) (lo:=0) (hi:=k) (l:=ξ) (u:=ω k) U U rfl rfl;obtain⟨hA3,hK3⟩:=c3 rfl U;rw[hA3,hK3,Nat.sub_zero]at e3;obtain⟨A4,K4,e4,c4,-⟩:=ri (II zc) (b:=g) (o:=0) (n:=n) (K:=K) (lo:=k+1) (hi:=n) (l:=ω (k+1)) (u:=ξ) U U rfl rfl;have hfl:∀u∈vs,flat u=true:=λu hu=>by
  obtain⟨i,hi⟩:=List.getElem?_of_mem hu;have:=(List.getElem?_eq_some_iff.1 hi).1;obtain⟨r,hr⟩:∃r,R[i]? = ω r:=⟨_,List.getElem?_eq_getElem (by rw[q.len];omega)⟩;obtain⟨v,hv,qv⟩:=h5 i r hr;rw[hi]at hv;obtain rfl:=Option.some.inj hv;exact qv.flat
 have hap:=fX (P:=Tryz.prog) (h:=h) (e:=58) (size:=1) (bytes:=24) (A:=ω ⟨g,0,ξ⟩) (K:=K) (L:=K4) (B:=A4) (n:=k) (m:=n - (k+1)) (cells:=vs.drop (k+1)) zc (by rw[List.length_drop];omega) (λu hu=>hfl u (List.mem_of_mem_drop hu)) (λhm=>⟨g,0+(k+1),c4 U,λj u hj=>by
  rw[List.getElem?_drop]at hj;rw[aJ h3,Nat.zero_add,List.getElem?_append_left (List.getElem?_eq_some_iff.1 hj).1];exact hj⟩) U U
 have hble:Nat.ble (k+(n - (k+1))) (K / 2)=true:=Nat.ble_eq_true_of_le U;rw[hble]at hap;simp only[cond_true]at hap;obtain⟨lst,hlst⟩:∃lst,vs[n - 1]? = ω lst:=⟨_,List.getElem?_eq_getElem U⟩;have hap2:∃h',ah Tryz.prog h (ω (.slice 58)) (ω (.slice 58)) (Y (ω ⟨g,0,ξ⟩) k K) (Y A4 (n - (k+1)) K4)=ω (Y (ω ⟨g,0,ξ⟩) (n - 1) K,h')/\(∃x,Bk h' g ((vs.eraseIdx k ++ [x]) ++ rest) 58)/\h'.next=h.next/\∀b,b≠g->h'.get b=h.get b:=by
  rw[hap];unfold ly;rcases Nat.eq_zero_or_pos (n - (k+1)) with h0 | h0
  .have hb0:Nat.beq (n - (k+1)) 0=true:=by rw[h0];rfl
   simp only[hb0,cond_true];have hkn:k=n - 1:=U;refine⟨h,by rw[hkn],⟨lst,?_⟩,rfl,λ_ _=>rfl⟩;have:vs.eraseIdx k ++ [lst]=vs:=by
    rw[List.eraseIdx_eq_take_drop_succ,List.drop_of_length_le U,List.append_nil,hkn];have e:=List.take_add_one (l:=vs) (i:=n - 1);rw[hlst,show n - 1+1=n by omega,List.take_of_length_le U]at e;exact e.symm
   rw[this];exact h3
  .have hb0:Nat.beq (n - (k+1)) 0=false:=by
    cases hb:Nat.beq (n - (k+1)) 0 with
    | false=>rfl
    | true=>have:=aq hb;omega
   simp only[hb0,cond_false];have hst:=GW (o:=0+k*1) (vs:=vs.drop (k+1)) h3 (by rw[List.length_append,List.length_drop];omega) (λu hu=>hfl u (List.mem_of_mem_drop hu));have hst':bM h ((⟨g,0,ξ⟩:Addr).add (k*1)) (vs.drop (k+1))=j0 h g (0+k*1) (vs.drop (k+1)):=by rw[aZ];rfl
   rw[hst',hst];refine⟨h.put g (.cells ((vs ++ rest).take (0+k*1) ++ vs.drop (k+1) ++ (vs ++ rest).drop (0+k*1+(vs.drop (k+1)).length)) 58 false),by rw[show k+(n - (k+1))=n - 1 by omega],⟨lst,?_⟩,rfl,λb hb=>by rw[get_put,if_neg hb]⟩;have eC:(vs ++ rest).take (0+k*1) ++ vs.drop (k+1) ++ (vs ++ rest).drop (0+k*1+(vs.drop (k+1)).length)=(vs.eraseIdx k ++ [lst]) ++ rest:=by
    have e:vs.drop (n - 1) = [lst]:=by
     obtain⟨hi,hv⟩:=List.getElem?_eq_some_iff.1 hlst;have e0:=List.drop_eq_getElem_cons hi;have e1:vs.drop (n - 1+1) = []:=List.drop_of_length_le U;rw[e0,hv,e1]
    rw[Nat.mul_one,Nat.zero_add,List.length_drop,h4,show k+(n - (k+1))=n - 1 by omega,List.take_append_of_le_length U,List.drop_append_of_le_length U,List.eraseIdx_eq_take_drop_succ,e,List.append_assoc,List.append_assoc,List.append_assoc]
   rw[Bk,get_put,if_pos rfl,eC]
 obtain⟨h',x1,⟨x,x2⟩,x3,x4⟩:=hap2;obtain⟨A6,K6,e6,c6,-⟩:=ri (II zc) (b:=g) (o:=0) (n:=n - 1) (K:=K) (lo:=n - 1) (hi:=n) (l:=ω (n - 1)) (u:=ω n) U U rfl rfl;obtain rfl:=c6 U;have hel:(vs.eraseIdx k).length=n - 1:=by rw[List.length_eraseIdx_of_lt U];omega
 obtain⟨h'',y1,y2,y3,y4⟩:=zd (L:=K6) (o:=0+(n - 1)) (m:=n - (n - 1)) x2 (by rw[List.length_append,List.length_append,hel,List.length_singleton];omega) U;have hsame:∀b,b≠g->h''.get b=h.get b:=λb hb=>(y4 b hb).trans (x4 b hb);refine jj ⟨k,rfl,k+1,rfl,A2,n2,K2,e2,λh=>absurd h U,λ_=>⟨_,_,_,e3,_,_,_,e4,_,_,_,h',x1,_,_,_,e6,h'',y1,hK h'' ⟨?_,U,.inr ⟨g,rfl,U,h2⟩,λh0=>⟨g,vs.eraseIdx k,List.replicate 1 (Y ξ 0 0) ++ rest,rfl,U,h2,?_,hel,λi r hr=>?_⟩⟩ ⟨U,λb _ hb=>hsame b hb⟩ U⟩⟩
 .rw[List.length_eraseIdx_of_lt (by rw[q.len];exact hk),q.len]
 .have e1:n - (n - 1)=1:=U;have hx:(vs.eraseIdx k ++ [x]) ++ rest=vs.eraseIdx k ++ (x :: rest):=by simp
  rw[e1,Nat.zero_add,hx,List.take_append_of_le_length U,List.take_of_length_le U,List.drop_append,List.drop_eq_nil_of_le U,List.nil_append,hel,show n - 1+1 - (n - 1)=1 by omega]at y2;rw[<-List.append_assoc];exact y2
 .rw[List.getElem?_eraseIdx]at hr
  split at hr
  .rename_i hlt;obtain⟨v,hv,qv⟩:=h5 i r hr;exact⟨v,by rw[List.getElem?_eraseIdx,if_pos hlt];exact hv,qv.keep (λb hb _=>hsame b λe=>h2 (e ▸ hb)) U⟩
  .rename_i hlt;obtain⟨v,hv,qv⟩:=h5 (i+1) r hr;exact⟨v,by rw[List.getElem?_eraseIdx,if_neg hlt];exact hv,qv.keep (λb hb _=>hsame b λe=>h2 (e ▸ hb)) U⟩
end
end Eva
end
section
open Go Go.RowKit
def an (R:List (List Int)):Nat:=R.flatten.length
theorem ck:∀{R:List (List Int)}{i:Nat}{r r':List Int},R[i]? = ω r->an (R.set i r')+r.length=an R+r'.length
 | [],i,r,r',h=>by simp at h
 | x :: R,0,r,r',h=>by
  obtain rfl:=Option.some.inj h;unfold an;simp;omega
 | x :: R,i+1,r,r',h=>by
  have ih:=ck (R:=R) (i:=i) (r:=r) (r':=r') (by simpa using h);unfold an at ih⊢;simp at ih⊢;omega
theorem bC {R:List (List Int)}{i:Nat}{r:List Int}(h:R[i]? = ω r):r.length<=an R:=by
 have:=ck (r':=[]) h;simp at this;omega
theorem iI:∀{R:List (List Int)}{i:Nat}{r:List Int},R[i]? = ω r->an (R.eraseIdx i)+r.length=an R
 | [],i,r,h=>by simp at h
 | x :: R,0,r,h=>by
  obtain rfl:=Option.some.inj h;unfold an;simp;omega
 | x :: R,i+1,r,h=>by
  have ih:=iI (R:=R) (i:=i) (r:=r) (by simpa using h);unfold an at ih⊢;simp at ih⊢;omega
structure my (R R':List (List Int)):Prop where
 sum:an R' = an R
 ne:∀r∈R',r≠[]
 one:R.length<=1->R' = R
theorem my.swap {R R':List (List Int)}(M:my R R') (hl:R'.length=R.length){i j:Nat}{x y:List Int}(hij:i≠j) (hx:R'[i]? = ω x) (hy:R'[j]? = ω y):my R ((R'.set i y).set j x):=by
 have hi:=(List.getElem?_eq_some_iff.1 hx).1;have hj:=(List.getElem?_eq_some_iff.1 hy).1;refine⟨?_,λr hr=>?_,λh=>U⟩
 .have h1:=ck (r':=y) hx;have h2:=ck (R:=R'.set i y) (r':=x) (i:=j) (r:=y) (by rw[List.getElem?_set,if_neg hij];exact hy);have:=M.sum;omega
 .rcases List.mem_or_eq_of_mem_set hr with hr | rfl
  .rcases List.mem_or_eq_of_mem_set hr with hr | rfl
   .exact M.ne r hr
   .exact M.ne _ (List.mem_of_getElem? hy)
  .exact M.ne _ (List.mem_of_getElem? hx)
namespace Eva
section
variable {h h' h0:AH}{Q:Value->AH->Prop}{G G':Nat->Prop}{A:Option Addr}{n K g:Nat}{R:List (List Int)}{v:Value}{r:List Int}
theorem Gr {B:Option Addr}{L:Nat}{F:Nat->Prop}(hz:Sz cI F h B 0 L []):ah Tryz.prog h (ω (.slice 3)) (ω (.slice 3)) (Y ξ 0 0) (.slice B 0 L)=ω (Y ξ 0 0,h):=by
 have hap:=fX (P:=Tryz.prog) (h:=h) (e:=3) (size:=1) (bytes:=8) (A:=ξ) (K:=0) (L:=L) (B:=B) (n:=0) (m:=0) (cells:=[]) dR rfl (by simp) (λh=>absurd h U) U U;rw[hap];rfl
def Lj (G:Nat->Prop) (h:AH) (v:Value) (r:List Int):Prop:=∃A n K,v = Y A n K/\Sz cI G h A n K r
theorem pD {vs:List Value}{rs:List (List Int)}{b Kb:Nat}{t:TypeId}(hb:Bk h b vs t) (hlt:b<h.next) (hl:vs.length=rs.length) (hq:∀(i:Nat) (r:List Int),rs[i]? = ω r->∃v,vs[i]? = ω v/\Lj G h v r) (hT:an rs<100000) (hc:rs.length<=1000)
  (hK:∀A' K' h',Sa cI (λz=>h.next<=z) h' A' (an rs) K' rs.flatten->an rs<=K' / 2->Nw h h'->Q (Y A' (an rs) K') h'):WC Tryz.prog 71 [Y (ω ⟨b,0,ξ⟩) rs.length Kb] h Q:=by
 obtain⟨ln,hln⟩:∃ln:Nat->Nat,∀i,ln i=an (rs.take i):=⟨_,λ_=>rfl⟩;have hstep:∀{i r},rs[i]? = ω r->ln (i+1)=ln i+r.length/\(rs.take (i+1)).flatten=(rs.take i).flatten ++ r:=fun {i r} hr=>by
  have e:(rs.take (i+1)).flatten=(rs.take i).flatten ++ r:=by rw[List.take_add_one,hr];simp
  refine⟨?_,e⟩;rw[hln,hln];unfold an;rw[e,List.length_append]
 have hmono:∀i,ln i<=an rs:=λi=>by
  rw[hln];unfold an;have e:rs.flatten.length=((rs.take i) ++ rs.drop i).flatten.length:=by rw[List.take_append_drop]
  rw[e,List.flatten_append,List.length_append];exact Nat.le_add_right _ _
 have hln0:ln 0=0:=by rw[hln];rfl
 have hlnN:ln rs.length=an rs:=by rw[hln,List.take_length]
 have rd:∀{i},i<rs.length->∃r A n K,rs[i]? = ω r/\vs[i]? = ω (Y A n K)/\r.length=n/\Sz cI (λz=>G z/\z<h.next) h A n K r:=fun {i} hi=>by
  obtain⟨r,hr⟩:∃r,rs[i]? = ω r:=⟨_,List.getElem?_eq_getElem hi⟩;obtain⟨v,hv,A,n,K,rfl,s⟩:=hq i r hr;exact⟨r,A,n,K,hr,hv,s.len,s.mono λz hz hl=>⟨hz,hl⟩⟩
 refine gG ⟨λw x y h1=>h1=h/\∃i:Nat,y=i/\i<=rs.length/\w=rs.length - i/\x=(ln i:Int),rs.length,⟨rfl,0,rfl,Nat.zero_le _,rfl,by rw[hln0];rfl⟩,?_⟩;rintro w x y h1 ⟨rfl,i,rfl,hi,rfl,rfl⟩;refine⟨λhlt2=>?_,λhge=>?_⟩
 .obtain⟨r,A,n,K,hr,hv,hrl,s⟩:=rd (i:=i) U;have h1':=(hstep hr).1;have:=hmono (i+1);refine⟨i,rfl,b,0,rfl,U,A,n,K,by rw[aJ hb,Nat.zero_add];exact hv,((ln (i+1):Nat):Int),by rw[ae U U];omega,λh=>absurd h U,λ_=>⟨_,ae U U,rs.length - (i+1),U,rfl,i+1,U,U,rfl,rfl⟩⟩
 .obtain rfl:i=rs.length:=U;rw[hlnN];rcases Nat.eq_zero_or_pos (an rs) with h0 | h0
  .rw[h0]at hK⊢;have hnil:rs.flatten = []:=List.eq_nil_of_length_eq_zero h0;have hz:∀i,ln i=0:=λi=>by have:=hmono i;omega
   refine cQ ⟨λh=>absurd h U,λ_=>⟨by rfl,0,rfl,0,rfl,λh=>absurd h U,λ_=>⟨ξ,0,0,rfl,λw A4 n4 K4 y h3=>h3=h1/\A4=ξ/\n4=0/\K4=0/\∃i:Nat,y=i/\i<=rs.length/\w=rs.length - i,rs.length,⟨rfl,rfl,rfl,rfl,0,rfl,Nat.zero_le _,rfl⟩,?_⟩⟩⟩;rintro w A4 n4 K4 y h3 ⟨rfl,rfl,rfl,rfl,i,rfl,hi,rfl⟩;refine⟨λhlt2=>?_,λhge=>?_⟩
   .obtain⟨r,A,n,K,hr,hv,hrl,s⟩:=rd (i:=i) U;have h1':=(hstep hr).1;rw[hz,hz]at h1';have hr0:r = []:=List.eq_nil_of_length_eq_zero U;have hn0:n=0:=by rw[<-hrl,hr0];rfl
    subst hr0 hn0;exact⟨i,rfl,b,0,rfl,U,A,0,K,by rw[aJ hb,Nat.zero_add];exact hv,_,_,_,h3,Gr s,_,ae U U,rs.length - (i+1),U,rfl,rfl,rfl,rfl,i+1,U,U,rfl⟩
   .rw[hnil]at hK;exact hK ξ 0 h3 ⟨rfl,.inl ⟨rfl,rfl,rfl⟩,λh=>absurd h (Nat.lt_irrefl _)⟩ (Nat.le_refl _) (Nw.refl h3)
  .refine Ii (n:=an rs) h0 U λh2 o2 k2 z2=>⟨_,_,_,rfl,?_⟩;have hb2:=k2.bk hlt hb;refine⟨λw A4 n4 K4 y h3=>A4=ω ⟨h1.next,0,ξ⟩/\K4=cl (an rs)/\∃i:Nat,y=i/\i<=rs.length/\w=rs.length - i/\n4=ln i/\cr h3 (ω ⟨h1.next,0,ξ⟩) n4 (cl (an rs)) (rs.take i).flatten/\Mt (λz=>z=h1.next) h2 h3,rs.length,⟨rfl,rfl,0,rfl,Nat.zero_le _,rfl,hln0.symm,o2,Mt.refl _ _⟩,?_⟩;rintro w A4 n4 K4 y h3 ⟨rfl,rfl,i,rfl,hi,rfl,rfl,o3,m3⟩;have hb3:=m3.bk U U hb2;refine⟨λhlt2=>?_,λhge=>?_⟩
   .obtain⟨r,A,n,K,hr,hv,hrl,s⟩:=rd (i:=i) U;obtain⟨q1,q2⟩:=hstep hr;have:=hmono (i+1);obtain⟨h4,y1,y2,y3,y4⟩:=cr.apps o3 ((s.nw k2).off m3 λz hz e=>U) U U;refine⟨i,rfl,b,0,rfl,U,A,n,K,by rw[aJ hb3,Nat.zero_add];exact hv,_,_,_,h4,y1,_,ae U U,rs.length - (i+1),U,rfl,rfl,i+1,U,U,rfl,U,?_,m3.then ⟨U,λz _ hn=>y4 z hn⟩⟩;rw[q2];exact y2
   .obtain rfl:i=rs.length:=U;rw[hlnN,List.take_length]at o3;rw[hlnN];exact hK _ _ h3 ((Gq o3).mono λz hz _=>U) (by unfold cl;omega) (m3.is_nw k2 λz hz=>U)
theorem EI (x y:Int) (hK:∀c,Q (ψ η c) h):WC Tryz.prog 76 [ψ η x,ψ η y] h Q:=
 lU (uY x ⟨false,rfl,uY y ⟨false,rfl,λh=>Bool.noConfusion h,λ_=>⟨λh=>Bool.noConfusion h,λ_=>⟨λ_=>hK _,λ_=>⟨λ_=>hK _,λ_=>hK _⟩⟩⟩⟩⟩)
theorem Ik {A A':Option Addr}{n n' K K':Nat}{r r':List Int}(s:Sa cI G h A n K r) (s':Sa cI G' h A' n' K' r') (hr:r≠[]) (hr':r'≠[]) (hK:∀c,Q (ψ η c) h):WC Tryz.prog 75 [Y A n K,Y A' n' K'] h Q:=by
 have h1:0<n:=by rw[<-s.len];exact List.length_pos_iff.2 hr
 have h2:0<n':=by rw[<-s'.len];exact List.length_pos_iff.2 hr'
 obtain⟨b,o,x,hA,-,-,-,e⟩:=s.int h1;obtain⟨b',o',x',hA',-,-,-,e'⟩:=s'.int h2;exact rR ⟨b,o,hA,h1,x,e,b',o',hA',h2,x',e',EI _ _ λc=>⟨_,rfl,hK c⟩⟩
theorem ze (q:RR h G (ω ⟨g,0,ξ⟩) n K R) (hne:∀r∈R,r≠[]) (hn:n<=1000) (hK:∀R' h',RR h' G (ω ⟨g,0,ξ⟩) n K R'->my R R'->Mt (λb=>b=g) h h'->h'.next=h.next->Q (.tuple #[]) h') :
  WC Tryz.prog 210 [Y (ω ⟨g,0,ξ⟩) n K,ψ η 0,ψ η n,.func (.func 75) #[] #[]] h Q:=by
 have hRl:=q.len;refine df ⟨1,rfl,λm x h1=>∃(i:Nat) (R1:List (List Int)),x=i/\1<=i/\m=n+1 - i/\RR h1 G (ω ⟨g,0,ξ⟩) n K R1/\my R R1/\Mt (λb=>b=g) h h1/\h1.next=h.next,n,⟨1,R,rfl,Nat.le_refl _,rfl,q,⟨rfl,hne,λ_=>rfl⟩,Mt.refl _ _,rfl⟩,?_⟩;rintro m x h1 ⟨i,R1,rfl,hi1,rfl,q1,M1,m1,z1⟩;refine⟨λhlt=>?_,λhge=>hK R1 h1 q1 M1 m1 z1⟩;have hil:i<n:=U;have nextI:∀R2 h2,RR h2 G (ω ⟨g,0,ξ⟩) n K R2->my R R2->Mt (λb=>b=g) h h2->h2.next=h.next->∃x:Int,IntKind.i64.wrap ((i:Int)+1)=x/\∃m',m' < n+1 - i/\∃(i:Nat) (R1:List (List Int)),x=i/\1<=i/\m' = n+1 - i/\RR h2 G (ω ⟨g,0,ξ⟩) n K R1/\my R R1/\Mt (λb=>b=g) h h2/\h2.next=h.next:=λR2 h2 q2 M2 m2 z2=>⟨((i+1:Nat):Int),by rw[ae U U];omega,n+1 - (i+1),U,i+1,R2,rfl,U,rfl,q2,M2,m2,z2⟩;refine⟨λm x h2=>∃(j:Nat) (R2:List (List Int)),x=j/\j<=i/\m=j/\RR h2 G (ω ⟨g,0,ξ⟩) n K R2/\my R R2/\Mt (λb=>b=g) h h2/\h2.next=h.next,i,⟨i,R1,rfl,Nat.le_refl _,rfl,q1,M1,m1,z1⟩,?_⟩;rintro m x h2 ⟨j,R2,rfl,hj,rfl,q2,M2,m2,z2⟩;refine⟨λhlt2=>?_,λhge2=>nextI R2 h2 q2 M2 m2 z2⟩;obtain⟨j,rfl⟩:∃k,m=k+1:=⟨m - 1,U⟩;obtain⟨g1,A2,n2,K2,r2,hA2,-,hr2,e2,c2,s2⟩:=q2.row (i:=j+1) U;injection hA2 with hA2;injection hA2 with hA2;subst hA2;obtain⟨g2,A3,n3,K3,r3,hA3,-,hr3,e3,c3,s3⟩:=q2.row (i:=j) U;injection hA3 with hA3;injection hA3 with hA3;subst hA3;have wj:IntKind.i64.wrap (((j+1:Nat):Int) - 1)=(j:Int):=by rw[ae U U];omega
 refine⟨j+1,rfl,g,0,rfl,U,_,_,_,e2,_,wj,j,rfl,U,_,_,_,e3,by kernel_rfl,Ik s2 s3 (M2.ne _ (List.mem_of_getElem? hr2)) (M2.ne _ (List.mem_of_getElem? hr3)) λc=>⟨c,rfl,λhc=>?_,λhc=>nextI R2 h2 q2 M2 m2 z2⟩⟩;obtain⟨h4,s4,q4,z4,o4⟩:=q2.set (i:=j+1) U ⟨A3,n3,K3,rfl,c3,s3⟩;have s2':jV G h4 (Y A2 n2 K2) r2:=jV.keep ⟨A2,n2,K2,rfl,c2,s2⟩ (λb hb _=>o4 b λe=>by
  obtain⟨g',vs,rest,hA,-,hng,-⟩:=q2.at_ U;injection hA with hA;injection hA with hA;subst hA;exact hng (e ▸ hb)) U
 obtain⟨h5,s5,q5,z5,o5⟩:=q4.set (i:=j) U s2';exact⟨_,wj,_,wj,j,rfl,U,_,_,_,e3,U,_,_,_,e2,U,h4,s4,j,rfl,U,h5,s5,_,wj,j,U,j,_,rfl,U,rfl,q5,M2.swap (by rw[q2.len,hRl]) U hr2 hr3,⟨U,λb hb hn=>(o5 b hn).trans ((o4 b hn).trans (m2.get b hb hn))⟩,U⟩
set_option maxRecDepth 100000 in
theorem JL {n:Nat}(hn:n<=10) (hK:∀c:Int,Q (ψ η c) h):WC Tryz.prog 146 [.int .u64 n] h Q:=by
 have key:∀(n:Nat) (c:Int),aR Tryz.prog (aK Tryz.prog 12) 146 [.int .u64 n] h=ω (ψ η c,h)->WC Tryz.prog 146 [.int .u64 n] h Q:=λn c e=>⟨12,_,_,e,hK c⟩
 match n,hn with
 | 0,_=>exact key 0 0 (by kernel_rfl)
 | 1,_=>exact key 1 1 (by kernel_rfl)
 | 2,_=>exact key 2 2 (by kernel_rfl)
 | 3,_=>exact key 3 2 (by kernel_rfl)
 | 4,_=>exact key 4 3 (by kernel_rfl)
 | 5,_=>exact key 5 3 (by kernel_rfl)
 | 6,_=>exact key 6 3 (by kernel_rfl)
 | 7,_=>exact key 7 3 (by kernel_rfl)
 | 8,_=>exact key 8 4 (by kernel_rfl)
 | 9,_=>exact key 9 4 (by kernel_rfl)
 | 10,_=>exact key 10 4 (by kernel_rfl)
 | n+11,h=>exact absurd h U
theorem Cj (q:RR h G (ω ⟨g,0,ξ⟩) n K R) (hne:∀r∈R,r≠[]) (hn:n<=10) (hK:∀R' h',RR h' G (ω ⟨g,0,ξ⟩) n K R'->my R R'->Mt (λb=>b=g) h h'->h'.next=h.next->Q (.tuple #[]) h') :
  WC Tryz.prog 74 [Y (ω ⟨g,0,ξ⟩) n K,.func (.func 75) #[] #[]] h Q:=by
 refine iq ⟨_,(D0 (i:=n) (j:=0) U U).2.1,JL hn λc=>⟨c,rfl,eL ⟨λm x4 x5 x6 b1 b2 h1=>x4=0/\x5=(n:Int)/\h1=h,0,⟨rfl,rfl,rfl⟩,?_⟩⟩⟩;rintro m x4 x5 x6 b1 b2 h1 ⟨rfl,rfl,rfl⟩;refine⟨(n:Int),by rw[Int.sub_zero];exact ae U U,λ_=>ze q hne U λR' h' q' M m z=>⟨rfl,rfl,hK R' h' q' M m z⟩,λh=>absurd U h⟩
theorem rk {f:FuncId}{fb:Array Value}(q:RR h G A n K R) (hne:∀r∈R,r≠[]) (hn:n<=1000) (hg:bh Tryz.prog f=true) (hp:∀(A':Option Addr) (n' K':Nat) (r:List Int) (Q':Value->AH->Prop),Sa cI G h A' n' K' r->r∈R->r≠[]->(∀b,Q' (.bool b) h)->WC Tryz.prog f ([Y A' n' K'] ++ Array.toList fb) h Q')
  (hK:∀x:Int,(x<0\/∃k:Nat,k<n/\x=k)->Q (ψ η x) h):WC Tryz.prog 68 [Y A n K,.func (.func f) #[] fb] h Q:=by
 refine gH ⟨λm x h1=>∃i:Nat,x=i/\i<=n/\m=n - i/\h1=h,n,⟨0,rfl,Nat.zero_le _,rfl,rfl⟩,?_⟩;rintro m x h1 ⟨i,rfl,hi,rfl,rfl⟩;refine⟨λhlt=>?_,λ_=>hK _ (.inl U)⟩;have hil:i<n:=U;obtain⟨g,A',n',K',r,hA,-,hr,e,c,s⟩:=q.row hil;exact⟨i,rfl,g,0,hA,hil,_,_,_,e,hg,hp A' n' K' r _ s (List.mem_of_getElem? hr) (hne r (List.mem_of_getElem? hr)) λb=>⟨b,rfl,λ_=>hK _ (.inr ⟨i,hil,rfl⟩),λ_=>⟨_,ae U U,n - (i+1),U,i+1,U,hil,rfl,rfl⟩⟩⟩
end
end Eva
end
section
open Go Go.RowKit
namespace Eva
theorem JN:tf Tryz.prog 179 3 24=true:=by kernel_rfl
section
variable {h h' h0:AH}{Q:Value->AH->Prop}{E F G:Nat->Prop}{A A2 A3:Option Addr}{n K K2 K3 m k:Nat}{d cap lim:Int}{st:List (Int×Int)}{T:List (List Nat)}{l:List Int}
theorem Il (s:Sa jo E h A n K st) (hn:n<=1000) (hT:eJ m T) (sT:Sa aM F h A2 m K2 (T.map dz)) (hm:0<m) (sl:Sa cI G h A3 k K3 l) (hk:k<=1000) (hK:∀h',Nw h h'->Q (.bool (oQ st cap lim T m l)) h') :
  WC Tryz.prog 72 [.agg #[ψ η d,ψ η cap,ψ η lim,Y A n K],Y A2 m K2,Y A3 k K3] h Q:=by
 refine wG λh1 e1=>?_;obtain⟨k1,z1,ld⟩:=mw e1;obtain⟨l0,l1,l2,l3,l4⟩:=ld h1 (Nw.refl _);refine vj hT (sT.nw k1) hm (sl.nw k1) hk ⟨_,rfl,_,_,_,_,_,_,l4,_,l1,He (s.nw k1) hn (sl.nw k1) hk λh2 k2=>⟨_,rfl,(ld h2 k2).2.1,λp1=>⟨λp2=>⟨_,(ld h2 k2).2.2.1,λp3=>?_,λp3=>?_⟩,λp2=>?_⟩,λp1=>?_⟩⟩
 all_goals
  have:=hK h2 (k1.trans k2);unfold oQ at this
 .rw[decide_eq_true p1,decide_eq_true p2,decide_eq_true p3]at this;exact this
 .rw[decide_eq_true p1,decide_eq_true p2,decide_eq_false p3]at this;exact this
 .rw[decide_eq_true p1,decide_eq_false p2]at this;exact this
 .rw[decide_eq_false p1]at this;exact this
theorem oS:∀ss:List cm,jg (eI ss)=ω ss
 | []=>rfl
 | s :: ss=>by
  show(jg (eI ss)).map (s :: ·)=_;rw[oS ss];rfl
theorem mz {l:List Value}:orc 138 l h=gB h l:=by kernel_rfl
theorem EJ {ss:List fJ}(o:ay aS h (ai A) 179 A n K ss) (hn:n<=1000) (hK:∀(ss':List fJ) h',Sa aS (ai A) h' A n K ss'->Mt (ai A) h h'->h'.next=h.next->Q (.tuple #[]) h') :
  WC Tryz.prog 138 [Y A n K,.func (.func 139) #[] #[]] h Q:=by
 obtain⟨hl,o⟩:=o;rcases o with⟨rfl,rfl,rfl⟩ | ⟨g,cells,rfl,-,h2,h3,h4,h5,-,h7⟩
 .exact WC.orc (by rw[mz];kernel_rfl) (hK ss h ⟨hl,.inl ⟨rfl,rfl,rfl⟩,λh=>absurd h U⟩ ⟨Nat.le_refl _,λ_ _ _=>rfl⟩ rfl)
 .have hc:cells=eI ss:=xl (by rw[h4,hl];rfl) λk s hk=>h7 k s hk;subst hc;have hlen:(eI ss).length=n*3:=h4;obtain⟨ys,hy⟩:∃ys,(ss.mergeSort λx y=>!lG y x)=ys:=⟨_,rfl⟩;have hyl:ys.length=n:=by rw[<-hy,List.length_mergeSort];exact hl
  have hs:gB h [Y (ω ⟨g,0,ξ⟩) n K,.func (.func 139) #[] #[]]=ω (.tuple #[],h.put g (.cells (eI ys) 179 false)):=by
   rw[show ∀x,gB h [x,.func (.func 139) #[] #[]]=lH h x from λx=>by kernel_rfl];unfold lH;simp only[h3];have e1:((eI ss).drop 0).take (n*3)=eI ss:=by rw[List.drop_zero,List.take_of_length_le U]
   have e3:(eI ss).drop (0+n*3) = []:=List.drop_of_length_le U;rw[e1,oS];unfold nd;have b1:Nat.ble (0+n*3) (eI ss).length=true:=Nat.ble_eq_true_of_le U;have b2:Nat.ble n (K / 2)=true:=Nat.ble_eq_true_of_le (by unfold cl at h5;omega);have b3:Nat.ble n 1000000=true:=Nat.ble_eq_true_of_le U;simp only[b1,b2,b3,Bool.and_self,cond_true,List.take_zero,List.nil_append,e3,hy,List.append_nil];rfl
  have b9:Bk (h.put g (.cells (eI ys) 179 false)) g (eI ys) 179:=by rw[Bk,get_put,if_pos rfl]
  refine WC.orc (mz.trans hs) (hK ys _ (by rw[<-hyl];exact Gi (F:=ai (ω ⟨g,0,ξ⟩)) b9 rfl h2 K) ⟨Nat.le_refl _,λb _ hn=>by rw[get_put,if_neg (λe:b=g=>hn e)]⟩ rfl)
theorem Ck {ss:List fJ}(hs:Sa aS F h A n K ss) (hn:n<=1000) (hK:∀A' K' h',Sa aS (λz=>h.next<=z) h' A' n K' ss->Nw h h'->Q (Y A' n K') h'):WC Tryz.prog 142 [Y A n K] h Q:=by
 refine cD ⟨λhA=>?_,λhA=>?_⟩
 .obtain⟨h0,h1⟩:=hs.nil0 hA;refine⟨h0,h1,?_⟩;subst hA h0 h1;exact hK ξ 0 h ⟨hs.len,.inl ⟨rfl,rfl,rfl⟩,λh=>absurd h U⟩ (Nw.refl _)
 .obtain⟨b,o,rfl⟩:=hs.some_ hA;refine⟨b,o,rfl,λh1 e1=>?_⟩;obtain⟨A',K',h',x1,x2,x3,x4⟩:=nT (r:=aS) (bytes:=24) (t:=179) (fB _ _ _) JN hs.z U U e1;exact⟨A',n,K',h',x1,hK _ _ _ (x2.sa.mono λb hb _=>x4 b hb) x3⟩
theorem JP (hT:eJ m T) (sT:Sa aM F h A2 m K2 (T.map dz)) (hm:m<=11) (hK:∀A' n' K' (ss:List fJ) h',Sa aS (λz=>h.next<=z) h' A' n' K' ss->n'<=1000->Nw h h'->Q (Y A' n' K') h') :
  WC Tryz.prog 67 [Y A2 m K2] h Q:=by
 refine wE (AD hT sT U ⟨ξ,rfl,λ_=>⟨λw A n K x h2=>∃(i:Nat) (ss:List fJ),x=i/\1<=i/\i<=m+1/\w=m+1 - i/\n<=(i - 1)*11/\ay aS h2 (ai A) 179 A n K ss/\(∀b,ai A b->h.next<=b)/\Nw h h2,m,⟨1,[],rfl,Nat.le_refl _,U,rfl,Nat.zero_le _,ay.nil _ _ _ _,λb hb=>hb.elim,Nw.refl _⟩,?_⟩,λt u h=>by cases h⟩);rintro w A n K x h2 ⟨i,ss,rfl,hi,hi2,rfl,hn,o2,lo2,k2⟩;refine⟨λhlt=>?_,λhge=>?_⟩
 .have him:i<m:=U;refine⟨λw A n K x h3=>∃(j:Nat) (ss:List fJ),x=j/\1<=j/\j<=m/\w=m - j/\n<=(i - 1)*11+(j - 1)/\ay aS h3 (ai A) 179 A n K ss/\(∀b,ai A b->h.next<=b)/\Nw h h3,m - 1,⟨1,ss,rfl,Nat.le_refl _,U,rfl,U,o2,lo2,k2⟩,?_⟩;rintro w A n K x h3 ⟨j,ss,rfl,hj,hjm,rfl,hn,o3,lo3,k3⟩;refine⟨λhlt=>?_,λhge=>?_⟩
  .have hjl:j<m:=U;obtain⟨b,o,Ai,Ki,hA,-,r0,c0⟩:=jM hT (sT.nw k3) him;obtain⟨b1,o1,hA1,-,e1⟩:=c0 0 U;obtain⟨b2,o2',hA2,-,r1,d0⟩:∃(A0:Option Addr) (K0:Nat),True/\True/\ldC h3 b (o+0)=ω (Y A0 m K0)/\∀k,k<m->∃b' o',A0=ω ⟨b',o',ξ⟩/\b' < h3.next/\ldC h3 b' (o' + k)=ω (ψ η ((tab T 0 k:Nat):Int)):=by
    obtain⟨b',o',A0,K0,hA0,-,r,c⟩:=jM hT (sT.nw k3) (i:=0) U;rw[hA]at hA0;injection hA0 with hA0;injection hA0 with q1 q2;subst q1 q2;exact⟨A0,K0,trivial,trivial,r,c⟩
   obtain⟨b3,o3',hA3,-,e3⟩:=d0 j hjl;obtain⟨b4,o4,hA4,-,e4⟩:=c0 j hjl;have skip:∃x:Int,IntKind.i64.wrap ((j:Int)+1)=x/\∃w',w' < m - j/\∃(j:Nat) (ss:List fJ),x=j/\1<=j/\j<=m/\w' = m - j/\n<=(i - 1)*11+(j - 1)/\ay aS h3 (ai A) 179 A n K ss/\(∀b,ai A b->h.next<=b)/\Nw h h3:=⟨((j+1:Nat):Int),by rw[ae U U];omega,m - (j+1),U,j+1,ss,rfl,U,hjl,rfl,U,o3,lo3,k3⟩;refine⟨i,rfl,b,o,hA,him,_,_,_,r0,b1,o1,hA1,U,_,e1,U,_,_,_,r1,j,rfl,b3,o3',hA3,hjl,_,e3,him,_,_,_,r0,b4,o4,hA4,hjl,_,e4,λh4=>h4=h3,λh4 e=>by rw[e];exact skip,λ_=>rfl,λ_=>⟨λ_=>rfl,λ_=>⟨λ_=>rfl,λ_=>⟨λ_=>rfl,λ_=>⟨_,rfl,_,rfl,λ_=>rfl,λ_=>⟨_,rfl,_,rfl,λh5 e5=>?_⟩⟩⟩⟩⟩⟩;obtain⟨k5,g5,z5⟩:=aj e5;obtain⟨sv,hsv⟩:∃sv:Int,IntKind.i64.wrap (IntKind.i64.wrap (((tab T i 0:Nat):Int)+((tab T 0 j:Nat):Int)) - ((tab T i j:Nat):Int))=sv:=⟨_,rfl⟩;rw[hsv]at g5;have hz:Sz aS (λz=>z=h3.next) h5 (ω ⟨h3.next,0,ξ⟩) 1 2 [((i:Int),(j:Int),sv)]:=Sz.one g5 rfl U rfl rfl;obtain⟨A7,K7,h6,y1,y2,y3,y4⟩:=bq (fB _ _ _) (r:=aS) JN (o3.nw k5) hz U U;have z3:=k3.next;exact⟨A7,n+1,K7,h6,y1,((j+1:Nat):Int),by rw[ae U U];omega,m - (j+1),U,j+1,_,rfl,U,hjl,rfl,U,y2,λz hz=>(y4 z hz).elim (lo3 z) (λh=>U),y3.is_nw (k3.trans k5) lo3⟩
  .obtain rfl:j=m:=U;exact⟨((i+1:Nat):Int),by rw[ae U U];omega,j+1 - (i+1),U,i+1,ss,rfl,U,U,rfl,U,o3,lo3,k3⟩
 .have hn2:n<=1000:=U;exact EJ o2 hn2 λss' h7 s7 m7 z7=>⟨rfl,Ck s7 hn2 λA' K' h8 s8 k8=>⟨_,_,_,rfl,hK A' n K' ss' h8 (s8.mono λb hb _=>by have:=k2.next;omega) hn2 ((m7.is_nw k2 lo2).trans k8)⟩⟩
end
end Eva
end
section
open Go Go.RowKit
def gX (n:Nat):List (List Int):=(List.range n).map λk=>[((k+1:Nat):Int)]
theorem mB:∀n,an (gX n)=n
 | 0=>rfl
 | n+1=>by
  have ih:=mB n;unfold gX an at ih⊢;rw[List.range_succ,List.map_append,List.flatten_append,List.length_append,ih];rfl
theorem xz (n:Nat):∀r∈gX n,r≠[]:=by
 intro r hr;obtain⟨k,-,rfl⟩:=List.mem_map.1 hr;simp
namespace Eva
section
variable {h h' h0:AH}{Q:Value->AH->Prop}{E F G:Nat->Prop}{A A2 A3:Option Addr}{n K K2 K3 m k na:Nat}{d cap lim:Int}{st:List (Int×Int)}{T:List (List Nat)}{l r:List Int}
theorem Im {b:Nat}{x y z:Int}{t:TypeId}(s:Sa cI G h A n K r) (hr:r≠[]) (hn:n<=100000) (hb:Bk h b [ψ η x,ψ η y,ψ η z] t) (hK:∀b,Q (.bool b) h):WC Tryz.prog 69 [Y A n K,ν (ω ⟨b,0,ξ⟩)] h Q:=by
 have h1:0<n:=by rw[<-s.len];exact List.length_pos_iff.2 hr
 obtain⟨b1,o1,x1,hA,-,-,-,e⟩:=s.int (k:=n - 1) U;exact rP ⟨((n - 1:Nat):Int),by rw[ae U U];omega,n - 1,rfl,b1,o1,hA,U,x1,e,b,0,rfl,x,aa hb rfl,λ_=>hK _,λ_=>hK _⟩
theorem In {b:Nat}{x y z:Int}{t:TypeId}(s:Sa cI G h A n K r) (hr:r≠[]) (hb:Bk h b [ψ η x,ψ η y,ψ η z] t) (hK:∀b,Q (.bool b) h):WC Tryz.prog 70 [Y A n K,ν (ω ⟨b,0,ξ⟩)] h Q:=by
 have h1:0<n:=by rw[<-s.len];exact List.length_pos_iff.2 hr
 obtain⟨b1,o1,x1,hA,-,-,-,e⟩:=s.int h1;exact rQ ⟨b1,o1,hA,h1,x1,e,b,0,rfl,y,aa hb rfl,λ_=>hK _,λ_=>hK _⟩
theorem JQ (J:gW na d cap lim st) (s:Sa jo E h A n K st) (hT:eJ (n+1) T) (sT:Sa aM F h A2 (n+1) K2 (T.map dz)) (hfit:∀i,i<n->jT cap lim st T i=ξ)
  (hK:∀A' n' K' (R:List (List Int)) h',RR h' (λz=>h.next<=z/\¬ai A' z) A' n' K' R->(∀z,ai A' z->h.next<=z)->an R=n->n'<=n->(n=1->R = [[1]])->Nw h h'->Q (.tuple #[Y A' n' K',.nilIface]) h') :
  WC Tryz.prog 31 [.agg #[ψ η d,ψ η cap,ψ η lim,Y A n K],Y A2 (n+1) K2] h Q:=by
 have hsl:=s.len;have hn:n<=10:=by rw[<-hsl];exact J.few
 refine wF λh1 e1=>?_;obtain⟨k1,z1,ld⟩:=mw e1;refine⟨_,_,_,_,_,_,(ld h1 (Nw.refl _)).2.2.2.2,Hf J (s.nw k1) hT (sT.nw k1) (λh2 _ k2=>⟨ξ,rfl,λ_=>⟨_,_,_,(ld h2 k2).2.2.2.1,U,λh3 e3=>?_⟩,λt u h=>by cases h⟩) (λi e v h' hi _ he=>by rw[hfit i hi]at he;cases he)⟩;obtain⟨k3,g3,z3⟩:=aj e3;rw[aQ]at g3;obtain⟨g,hg⟩:∃g,g=h2.next:=⟨_,rfl⟩;rw[<-hg]at g3⊢;have z2:=k2.next;have k13:=k2.trans k3;refine⟨λw x h4=>∃(i:Nat) (bs:List Nat),x=i/\i<=n/\w=n - i/\bs.length=i/\Bk h4 g (bs.map (λb=>Value.slice (ω ⟨b,0,ξ⟩) 1 2) ++ List.replicate (n - i) (Y ξ 0 0)) 58/\Nw h1 h4/\g<h4.next/\(∀j b,bs[j]? = ω b->g<b/\b<h4.next/\Bk h4 b [ψ η ((j+1:Nat):Int)] 3),n,⟨0,[],rfl,Nat.zero_le _,rfl,rfl,g3,k13,U,λj b hb=>by simp at hb⟩,?_⟩;rintro w x h4 ⟨i,bs,rfl,hi,rfl,hbl,b4,k4,l4,hbs⟩;have z4:=k4.next;refine⟨λhlt=>?_,λhge=>?_⟩
 .have hil:i<n:=U;refine⟨((i+1:Nat):Int),by rw[ae U U];omega,λh5 e5=>?_⟩;obtain⟨k5,g5,z5⟩:=aj e5;obtain⟨h6,s6,b6,z6,o6⟩:=ax (v:=Y (ω ⟨h4.next,0,ξ⟩) 1 2) (k5.bk l4 b4) (o:=0+i) (by simp;omega) rfl;have e:=mu (xs:=bs.map (λb=>Value.slice (ω ⟨b,0,ξ⟩) 1 2)) (n:=n) (z:=Y ξ 0 0) (v:=Y (ω ⟨h4.next,0,ξ⟩) 1 2) (by simp;omega);rw[List.length_map,hbl]at e;rw[Nat.zero_add,e]at b6;refine⟨i,rfl,hil,h6,s6,((i+1:Nat):Int),by rw[ae U U];omega,n - (i+1),U,i+1,bs ++ [h4.next],rfl,hil,rfl,by simp[hbl],by rw[List.map_append];exact b6,⟨U,λb hb=>(o6 b U).trans ((k5.get b U).trans (k4.get b hb))⟩,U,λj b hb=>?_⟩;by_cases hj:j<bs.length
  .rw[List.getElem?_append_left hj]at hb;obtain⟨q1,q2,q3⟩:=hbs j b hb;exact⟨q1,U,(o6 b U).trans (k5.bk q2 q3)⟩
  .rw[List.getElem?_append_right U]at hb;cases hjj:j - bs.length with
   | zero=>
    rw[hjj]at hb;obtain rfl:=Option.some.inj hb;have:j=i:=U;subst this;exact⟨U,U,(o6 _ U).trans g5⟩
   | succ q=>rw[hjj]at hb;simp at hb
 obtain rfl:i=n:=U;rw[Nat.sub_self,List.replicate_zero]at b4;have k04:=k1.trans k4;have q4:RR h4 (λz=>g<z) (ω ⟨g,0,ξ⟩) i (cx i) (gX i):=by
  refine⟨by unfold gX;simp,by unfold cx;omega,.inr ⟨g,rfl,l4,Nat.lt_irrefl _⟩,λ_=>⟨g,_,_,rfl,l4,Nat.lt_irrefl _,b4,by simp[hbl],λj r hr=>?_⟩⟩;have hj:=(List.getElem?_eq_some_iff.1 hr).1;unfold gX at hr hj;rw[List.length_map,List.length_range]at hj;rw[List.getElem?_map,List.getElem?_range hj]at hr;obtain rfl:=Option.some.inj hr;obtain⟨b,hb⟩:∃b,bs[j]? = ω b:=⟨_,List.getElem?_eq_getElem U⟩;obtain⟨q1,q2,q3⟩:=hbs j b hb;exact⟨_,by rw[List.getElem?_map,hb];rfl,ω ⟨b,0,ξ⟩,1,2,rfl,Nat.le_refl _,Sa.of_ints (xs:=[((j+1:Nat):Int)]) q3 rfl q1 q2⟩
 refine JP hT (sT.nw k04) U λA5 n5 K5 ss h7 s7 n7 k7=>⟨_,_,_,rfl,?_⟩;have z7:=k7.next;refine⟨λw A6 n6 K6 x h8=>∃(j:Nat) (R:List (List Int)),x=j/\j<=n5/\w=n5 - j/\A6=ω ⟨g,0,ξ⟩/\K6=cx i/\RR h8 (λz=>g<z) (ω ⟨g,0,ξ⟩) n6 (cx i) R/\(∀r∈R,r≠[])/\an R=i/\n6<=i/\(i=1->R = [[1]])/\Mt (λz=>z=g) h7 h8,n5,⟨0,_,rfl,Nat.zero_le _,rfl,rfl,rfl,q4.nw k7,xz i,mB i,Nat.le_refl _,λe=>by subst e;rfl,Mt.refl _ _⟩,?_⟩;rintro w A6 n6 K6 x h8 ⟨j,R,rfl,hj,rfl,rfl,rfl,q8,ne8,sum8,hn6,one8,m8⟩;have z8:=m8.next;have k18:Nw h1 h8:=m8.is_nw (k4.trans k7) λz hz=>U;refine⟨λhlt=>?_,λhge=>?_⟩
 .have hjl:j<n5:=U;obtain⟨b,o,x1,x2,x3,hA,hF,-,hx,v1,v2,v3⟩:=(s7.off m8 λz hz e=>U).tri hjl;refine⟨j,rfl,b,o,hA,hjl,x1,x2,x3,wS v1 v2 v3,λh9 e9=>?_⟩;obtain⟨h10,s10,k10,g10,z10⟩:=aD (vs:=[ψ η x1,ψ η x2,ψ η x3]) e9 rfl (eR rfl rfl rfl);have q10:=q8.nw k10;have w1:IntKind.i64.wrap ((j:Int)+1)=((j+1:Nat):Int):=ae U U;have again:∀(h':AH) (n':Nat) (R':List (List Int)),RR h' (λz=>g<z) (ω ⟨g,0,ξ⟩) n' (cx i) R'->(∀r∈R',r≠[])->an R' = i->n'<=i->(i=1->R' = [[1]])->Mt (λz=>z=g) h7 h'->∃x:Int,IntKind.i64.wrap ((j:Int)+1)=x/\∃w',w' < n5 - j/\∃(j:Nat) (R:List (List Int)),x=j/\j<=n5/\w' = n5 - j/\ω (⟨g,0,ξ⟩:Addr)=ω ⟨g,0,ξ⟩/\cx i=cx i/\RR h' (λz=>g<z) (ω ⟨g,0,ξ⟩) n' (cx i) R/\(∀r∈R,r≠[])/\an R=i/\n'<=i/\(i=1->R = [[1]])/\Mt (λz=>z=g) h7 h':=λh' n' R' q' ne' sum' hn' one' m'=>⟨_,w1,n5 - (j+1),U,j+1,R',rfl,hjl,rfl,rfl,rfl,q',ne',sum',hn',one',m'⟩;have skip:=again h10 n6 R q10 ne8 sum8 hn6 one8 (m8.nw k10);refine⟨h10,s10,rk q10 ne8 U (by kernel_rfl) (λA' n' K' r Q' sr hmr hr hQ=>Im sr hr (by obtain⟨i',hi'⟩:=List.getElem?_of_mem hmr;have:=bC hi';have:=sr.len;omega) g10 hQ) λy hy=>⟨y,rfl,rk q10 ne8 U (by kernel_rfl) (λA' n' K' r Q' sr hmr hr hQ=>In sr hr g10 hQ) λy' hy'=>⟨y',rfl,λ_=>skip,λh1=>⟨λ_=>skip,λh2=>⟨λ_=>skip,λh3=>?_⟩⟩⟩⟩⟩;obtain⟨ka,hka,rfl⟩:∃k:Nat,k<n6/\y=k:=hy.resolve_left U;obtain⟨kb,hkb,rfl⟩:∃k:Nat,k<n6/\y' = k:=hy'.resolve_left U;have hab:ka≠kb:=λe=>h3 (by rw[e]);obtain⟨g1,A7,n7,K7,r7,hA7,lg,hr7,e7,c7,s7'⟩:=q10.row hka;injection hA7 with hA7;injection hA7 with hA7;subst hA7;obtain⟨g2,A8,n8,K8,r8,hA8,-,hr8,e8,c8,s8⟩:=q10.row hkb;injection hA8 with hA8;injection hA8 with hA8;subst hA8;have hl7:=bC hr7;have hl8:=bC hr8;refine⟨ka,rfl,g,0,rfl,hka,_,_,_,e7,kb,rfl,hkb,_,_,_,e8,λh13 e13=>?_⟩;obtain⟨k13',g13,z13⟩:=aj e13;have hsm:an [r7,r8]=r7.length+r8.length:=by unfold an;simp
  refine pD (G:=λz=>g<z) (rs:=[r7,r8]) g13 U rfl (λi r hr=>?_) U (by simp) λA9 K9 h14 s14 c14 k14=>⟨_,_,_,rfl,?_⟩
  .match i,hr with
   | 0,hr=>
    obtain rfl:=Option.some.inj hr;exact⟨_,rfl,A7,n7,K7,rfl,(s7'.nw k13').z⟩
   | 1,hr=>
    obtain rfl:=Option.some.inj hr;exact⟨_,rfl,A8,n8,K8,rfl,(s8.nw k13').z⟩
   | i+2,hr=>simp at hr
  have z14:=k14.next;have k1014:=k13'.trans k14;have k114:=(k18.trans k10).trans k1014;have hfl:[r7,r8].flatten=r7 ++ r8:=by simp
  rw[hfl]at s14;refine⟨_,_,_,_,_,_,(ld h14 k114).2.2.2.2,Il (s.nw (k1.trans k114)) U hT (sT.nw (k1.trans k114)) U s14 U λh15 k15=>⟨_,rfl,λ_=>⟨hka,?_⟩,λ_=>again h15 n6 R (q10.nw (k1014.trans k15)) ne8 sum8 hn6 one8 ((m8.nw k10).nw (k1014.trans k15))⟩⟩;obtain⟨h16,s16,q16,z16,o16⟩:=(q10.nw (k1014.trans k15)).set hka (v:=Y A9 (an [r7,r8]) K9) (r:=r7 ++ r8) ⟨A9,_,K9,rfl,c14,(s14.nw k15).mono λz hz _=>U⟩;have hne78:r7 ++ r8≠[]:=λe=>ne8 r7 (List.mem_of_getElem? hr7) (List.append_eq_nil_iff.1 e).1;have hb':(R.set ka (r7 ++ r8))[kb]? = ω r8:=by rw[List.getElem?_set,if_neg hab];exact hr8
  have sum1:=ck (r':=r7 ++ r8) hr7;have sum2:=iI hb';rw[List.length_append]at sum1;refine⟨h16,s16,((kb+1:Nat):Int),by rw[ae U U];omega,tG q16 hkb U λh17 q17 m17 z17=>⟨_,_,_,rfl,again h17 (n6 - 1) _ q17 (λr hr=>?_) U U (λe=>?_) ⟨by have:=k15.next;omega,λz hz hn=>(m17.get z (by have:=k15.next;omega) hn).trans ((o16 z hn).trans (((k10.trans k1014).trans k15).get z U |>.trans (m8.get z hz hn)))⟩⟩⟩
  .have hr':=List.mem_of_mem_eraseIdx hr;rcases List.mem_or_eq_of_mem_set hr' with h | rfl
   .exact ne8 r h
   .exact hne78
  .have:=q8.len;rw[one8 e]at this;simp at this;omega
 .refine Cj q8 ne8 U λR' h18 q18 M18 m18 z18=>⟨rfl,xy q18 U λA12 K12 h19 q19 lo19 k19=>⟨_,_,_,rfl,hK A12 n6 K12 R' h19 (q19.mono (λz hz _=>⟨U,λho=>by have:=lo19 z ho;omega⟩) λz ho hz=>hz.2 ho) (λz hz=>by have:=lo19 z hz;omega) (by rw[M18.sum];exact sum8) hn6 (λe=>?_) ((m18.is_nw (k1.trans k18) λz hz=>U).trans k19)⟩⟩;have h1:=one8 e;rw[M18.one (by rw[h1];exact Nat.le_refl _),h1]
end
end Eva
end
section
open Go Go.RowKit
def xA (T:List (List Nat)) (m:Nat):Int->List (List Int)->Int
 | a,[]=>a
 | a,l :: R=>xA T m (iU a (xv T m l)) R
def fD (T:List (List Nat)) (m:Nat) (R:List (List Int)):Int:=xA T m 0 R
theorem xB (T:List (List Nat)) (m:Nat):∀(R:List (List Int)) (a:Int),0<=a/\a<=1152921504606846976->0<=xA T m a R/\xA T m a R<=1152921504606846976
 | [],a,h=>h
 | l :: R,a,h=>xB T m R _ (by rw[jm];have:=gN a;have:=gN (xv T m l);omega)
theorem vk (T:List (List Nat)) (m:Nat) (R:List (List Int)):0<=fD T m R/\fD T m R<=1152921504606846976:=xB T m R 0 U
def gu (n:Nat):List Bool->Nat->List Int->Option (List Bool×Nat)
 | th,c,[]=>ω (th,c)
 | th,c,k :: l=>if k<1\/((n+1:Nat):Int)<=k\/th[k.toNat]? = ω true then ξ else gu n (th.set k.toNat true) (c+1) l
def jN (n:Nat) (st:List (Int×Int)) (cap lim:Int) (T:List (List Nat)) (m:Nat):List Bool->Nat->List (List Int)->Bool
 | th,c,[]=>decide (c=n)
 | th,c,r :: R=>if r = [] then false else match gu n th c r with
  | none=>false
  | some (th',c')=>if oQ st cap lim T m r then jN n st cap lim T m th' c' R else false
def nW (n:Nat) (st:List (Int×Int)) (cap lim:Int) (T:List (List Nat)) (m:Nat) (R:List (List Int)):Bool:=jN n st cap lim T m (List.replicate (n+1) false) 0 R
namespace Eva
section
variable {h h' h0:AH}{Q:Value->AH->Prop}{E F G:Nat->Prop}{A A2 A3:Option Addr}{n K K2 K3 m k:Nat}{d cap lim:Int}{st:List (Int×Int)}{T:List (List Nat)}{l:List Int}{R:List (List Int)}
theorem Io (s:Sa jo E h A n K st) (hn:n<=1000) (hT:eJ m T) (sT:Sa aM F h A2 m K2 (T.map dz)) (hm:0<m) (sl:Sa cI G h A3 k K3 l) (hk:k<=1000) (hK:∀h',Nw h h'->Q (.bool (oQ st cap lim T m l)) h') :
  WC Tryz.prog 148 [.agg #[ψ η d,ψ η cap,ψ η lim,Y A n K],Y A2 m K2,Y A3 k K3] h Q:=by
 refine rS λh1 e1=>?_;obtain⟨k1,z1,ld⟩:=mw e1;obtain⟨l0,l1,l2,l3,l4⟩:=ld h1 (Nw.refl _);refine vj hT (sT.nw k1) hm (sl.nw k1) hk ⟨_,rfl,_,_,_,_,_,_,l4,_,l1,He (s.nw k1) hn (sl.nw k1) hk λh2 k2=>⟨_,rfl,(ld h2 k2).2.1,λp1=>⟨λp2=>⟨_,(ld h2 k2).2.2.1,λp3=>?_,λp3=>?_⟩,λp2=>?_⟩,λp1=>?_⟩⟩
 all_goals
  have:=hK h2 (k1.trans k2);unfold oQ at this
 .rw[decide_eq_true p1,decide_eq_true p2,decide_eq_true p3]at this;exact this
 .rw[decide_eq_true p1,decide_eq_true p2,decide_eq_false p3]at this;exact this
 .rw[decide_eq_true p1,decide_eq_false p2]at this;exact this
 .rw[decide_eq_false p1]at this;exact this
theorem zf (hT:eJ m T) (sT:Sa aM F h A2 m K2 (T.map dz)) (hm:0<m) (sR:Sa aM G h A n K R) (hn:n<=1000) (hr:∀r∈R,r.length<=1000) (hK:Q (ψ η (fD T m R)) h):WC Tryz.prog 33 [Y A2 m K2,Y A n K] h Q:=by
 refine qz ⟨λw x1 x2 h1=>∃i:Nat,x2=i/\i<=n/\w=n - i/\fD T m R=xA T m x1 (R.drop i)/\h1=h,n,⟨0,rfl,Nat.zero_le _,rfl,rfl,rfl⟩,?_⟩;rintro w x1 x2 h1 ⟨i,rfl,hi,rfl,hgo,rfl⟩;have hRl:=sR.len;refine⟨λhlt=>?_,λhge=>?_⟩
 .obtain⟨b,o,A',n',K',r,hA,-,-,hrr,e,s⟩:=sR.row (k:=i) U;have hrl:=hr r (List.mem_of_getElem? hrr);have hd:R.drop i=r :: R.drop (i+1):=by
   rw[List.drop_eq_getElem_cons U,(List.getElem?_eq_some_iff.1 hrr).2]
  rw[hd]at hgo;exact⟨i,rfl,b,o,hA,U,_,_,_,e,vj hT sT hm s (by rw[<-s.len];exact hrl) ⟨_,rfl,DZ _ _ ⟨_,rfl,_,ae U U,n - (i+1),U,i+1,rfl,U,rfl,hgo,rfl⟩⟩⟩
 .obtain rfl:i=n:=U;rw[List.drop_of_length_le U]at hgo;have hgo':fD T m R=x1:=hgo;rw[<-hgo'];exact hK
theorem zg (s:Sa jo E h A n K st) (hn:n<=1000) (hT:eJ m T) (sT:Sa aM F h A2 m K2 (T.map dz)) (hm:0<m) (sR:Sa aM G h A3 k K3 R) (hk:k<=1000) (hr:an R<=1000) (hK:∀h',Nw h h'->Q (.bool (nW n st cap lim T m R)) h') :
  WC Tryz.prog 78 [.agg #[ψ η d,ψ η cap,ψ η lim,Y A n K],Y A2 m K2,Y A3 k K3] h Q:=by
 have hRl:=sR.len;refine qw λh1 e1=>?_;obtain⟨k1,z1,ld⟩:=mw e1;refine⟨_,_,_,(ld h1 (Nw.refl _)).2.2.2.1,((n+1:Nat):Int),by rw[ae U U];omega,n+1,rfl,U,λh2 e2=>?_⟩;obtain⟨k2,g2,z2⟩:=aj e2;rw[aQ]at g2;obtain⟨TH,hTH⟩:∃TH,TH=h1.next:=⟨_,rfl⟩;rw[<-hTH]at g2⊢;have z1':=k1.next;refine⟨λw x5 x6 h3=>∃(i c:Nat) (th:List Bool),x5=c/\x6=i/\i<=k/\w=k - i/\c<=an (R.take i)/\th.length=n+1/\Bk h3 TH (th.map Value.bool) 4/\nW n st cap lim T m R=jN n st cap lim T m th c (R.drop i)/\Nw h1 h3/\TH<h3.next,k,⟨0,0,List.replicate (n+1) false,rfl,rfl,Nat.zero_le _,rfl,Nat.zero_le _,by simp,by rw[List.map_replicate];exact g2,rfl,k2,U⟩,?_⟩;rintro w x5 x6 h3 ⟨i,c,th,rfl,rfl,hi,rfl,hc,hth,b3,hgo,k3,l3⟩;have k03:=k1.trans k3;refine⟨λhlt=>?_,λhge=>?_⟩
 .obtain⟨b,o,A',n',K',r,hA,-,-,hrr,e,sr⟩:=(sR.nw k03).row (k:=i) U;have hrl:=bC hrr;have hsr:=sr.len;have hd:R.drop i=r :: R.drop (i+1):=by
   rw[List.drop_eq_getElem_cons U,(List.getElem?_eq_some_iff.1 hrr).2]
  have hst:an (R.take (i+1))=an (R.take i)+r.length:=by unfold an;rw[List.take_add_one,hrr];simp
  have hsT:an (R.take (i+1))<=an R:=by
   unfold an;have e:R.flatten.length=((R.take (i+1)) ++ R.drop (i+1)).flatten.length:=by rw[List.take_append_drop]
   rw[e,List.flatten_append,List.length_append];exact Nat.le_add_right _ _
  rw[hd,jN]at hgo;refine⟨i,rfl,b,o,hA,U,_,_,_,e,λh0=>?_,λh0=>?_⟩
  .rw[if_pos (List.eq_nil_of_length_eq_zero U)]at hgo;rw[hgo]at hK;exact hK h3 k03
  have hne:r≠[]:=λe=>h0 (by rw[<-hsr,e];rfl);rw[if_neg hne]at hgo;have no:∀h',gu n th c r=ξ->Nw h h'->Q (.bool false) h':=λh' hm' k'=>by
   rw[hm']at hgo;rw[hgo]at hK;exact hK h' k'
  refine⟨λw x7 x8 h4=>∃(j c':Nat) (th':List Bool),x7=c'/\x8=j/\j<=n'/\w=n' - j/\c' = c+j/\th'.length=n+1/\Bk h4 TH (th'.map Value.bool) 4/\gu n th c r=gu n th' c' (r.drop j)/\Nw h1 h4/\h4.next=h3.next,n',⟨0,c,th,rfl,rfl,Nat.zero_le _,rfl,rfl,hth,b3,rfl,k3,rfl⟩,?_⟩;rintro w x7 x8 h4 ⟨j,c',th',rfl,rfl,hj,rfl,rfl,hth',b4,hmk,k4,z4⟩;have k04:=k1.trans k4;refine⟨λhlt=>?_,λhge=>?_⟩
  .obtain⟨b,o,x,hA',-,-,hx,e⟩:∃b o x,A' = ω ⟨b,o,ξ⟩/\True/\True/\r[j]? = ω x/\ldC h4 b (o+j)=ω (ψ η x):=by
    obtain⟨b',o',A'',n'',K'',r'',q1,-,-,q4,q5,q6⟩:=(sR.nw k04).row (k:=i) U;rw[hA]at q1;injection q1 with q1;injection q1 with p1 p2;subst p1 p2;rw[hrr]at q4;obtain rfl:=Option.some.inj q4;have lb:b<h.next:=by
     obtain⟨b9,o9,A9,n9,K9,r9,q1,-,q2,-⟩:=sR.row (k:=i) U;rw[hA]at q1;injection q1 with q1;injection q1 with p1 p2;subst p1 p2;exact q2
    rw[k04.ldC lb]at q5;rw[k03.ldC lb]at e;rw[e]at q5;have q5:=Option.some.inj q5;injection q5 with p1 p2 p3;subst p1 p2 p3;obtain⟨b1,o1,x,u1,-,-,u4,u5⟩:=q6.int (k:=j) U;exact⟨b1,o1,x,u1,trivial,trivial,u4,u5⟩
   have hdj:r.drop j=x :: r.drop (j+1):=by
    rw[List.drop_eq_getElem_cons U,(List.getElem?_eq_some_iff.1 hx).2]
   rw[hdj,gu]at hmk;refine⟨j,rfl,b,o,hA',U,x,e,λh1'=>?_,λh1'=>⟨λh2'=>?_,λh2'=>?_⟩⟩
   .rw[if_pos (.inl h1')]at hmk;exact no h4 hmk k04
   .rw[if_pos (.inr (.inl h2'))]at hmk;exact no h4 hmk k04
   .obtain⟨xn,rfl⟩:∃xn:Nat,x=xn:=⟨x.toNat,U⟩;obtain⟨bv,hbv⟩:∃bv,th'[xn]? = ω bv:=⟨_,List.getElem?_eq_getElem U⟩;refine⟨xn,rfl,U,bv,by rw[aJ b4,Nat.zero_add,List.getElem?_map,hbv];rfl,λh3'=>?_,λh3'=>⟨U,?_⟩⟩
    .rw[if_pos (.inr (.inr (by rw[Int.toNat_natCast,hbv,h3'])))]at hmk;exact no h4 hmk k04
    .rw[if_neg (by
      rintro(h | h | h)
      .omega
      .omega
      .rw[Int.toNat_natCast,hbv,h3']at h;exact Bool.noConfusion (Option.some.inj h))]at hmk
     obtain⟨h5,s5,b5,z5,o5⟩:=ax (v:=.bool true) b4 (o:=0+xn) (by simp;omega) rfl;rw[Nat.zero_add,<-List.map_set]at b5;exact⟨h5,s5,((c+(j+1):Nat):Int),by rw[ae U U];omega,((j+1:Nat):Int),by rw[ae U U];omega,n' - (j+1),U,j+1,c+(j+1),_,rfl,rfl,U,rfl,rfl,by rw[List.length_set];exact hth',b5,hmk,⟨by have:=k4.next;omega,λb hb=>(o5 b U).trans (k4.get b hb)⟩,U⟩
  .obtain rfl:j=n':=U;rw[List.drop_of_length_le U,gu]at hmk;rw[hmk]at hgo;simp only at hgo;have sr4:Sa cI G h4 A' j K' r:=by
    obtain⟨b',o',A'',n'',K'',r'',q1,-,-,q4,q5,q6⟩:=(sR.nw k04).row (k:=i) U;rw[hA]at q1;injection q1 with q1;injection q1 with p1 p2;subst p1 p2;rw[hrr]at q4;obtain rfl:=Option.some.inj q4;have lb:b<h.next:=by
     obtain⟨b9,o9,A9,n9,K9,r9,q1,-,q2,-⟩:=sR.row (k:=i) U;rw[hA]at q1;injection q1 with q1;injection q1 with p1 p2;subst p1 p2;exact q2
    rw[k04.ldC lb]at q5;rw[k03.ldC lb]at e;rw[e]at q5;have q5:=Option.some.inj q5;injection q5 with p1 p2 p3;subst p1 p2 p3;exact q6
   refine⟨_,_,_,_,_,_,(ld h4 k4).2.2.2.2,Io (s.nw k04) hn hT (sT.nw k04) hm sr4 U λh6 k6=>⟨_,rfl,λhb=>?_,λhb=>?_⟩⟩
   .rw[if_pos hb]at hgo;exact⟨((i+1:Nat):Int),by rw[ae U U];omega,k - (i+1),U,i+1,_,_,rfl,rfl,U,rfl,U,hth',k6.bk U b4,hgo,k4.trans k6,by have:=k6.next;omega⟩
   .rw[if_neg (by rw[hb];simp)]at hgo;rw[hgo]at hK;exact hK h6 (k04.trans k6)
 .obtain rfl:i=k:=U;rw[List.drop_of_length_le U,jN]at hgo;rw[hgo]at hK;refine⟨_,_,_,(ld h3 k3).2.2.2.1,λhx=>?_,λhx=>?_⟩
  .rw[decide_eq_true U]at hK;exact hK h3 k03
  .rw[decide_eq_false U]at hK;exact hK h3 k03
theorem EK (q:RR h G A n K R) (hn:n<=1000) (hr:an R<=1000) (hK:∀g h',RR h' (λz=>h.next<=z/\z≠g) (ω ⟨g,0,ξ⟩) n (cx n) R->h.next<=g->Nw h h'->Q (Y (ω ⟨g,0,ξ⟩) n (cx n)) h'):WC Tryz.prog 152 [Y A n K] h Q:=by
 refine qC ⟨U,λh1 e1=>?_⟩;obtain⟨k1,g1,z1⟩:=aj e1;rw[aQ]at g1;obtain⟨g,hg⟩:∃g,g=h.next:=⟨_,rfl⟩;rw[<-hg]at g1⊢;have hRl:=q.len;refine⟨λw x h2=>∃(i:Nat) (vs:List Value),x=i/\i<=n/\w=n - i/\vs.length=i/\Bk h2 g (vs ++ List.replicate (n - i) (Y ξ 0 0)) 58/\Nw h h2/\g<h2.next/\(∀j v r,vs[j]? = ω v->R[j]? = ω r->jV (λz=>g<z) h2 v r),n,⟨0,[],rfl,Nat.zero_le _,rfl,rfl,g1,k1,U,λj v r hv=>absurd (List.mem_of_getElem? hv) List.not_mem_nil⟩,?_⟩;rintro w x h2 ⟨i,vs,rfl,hi,rfl,hvl,b2,k2,l2,hvs⟩;have z2:=k2.next;refine⟨λhlt=>?_,λhge=>?_⟩
 .have hil:i<n:=U;obtain⟨g1',A',n',K',r,hA,lg,hrr,e,c,s⟩:=(q.nw k2).row hil;have hrl:=bC hrr;refine⟨i,rfl,g1',0,hA,hil,_,_,_,e,λh3 e3=>?_⟩;obtain⟨k3,g3,z3⟩:=aj e3;have hsm:an [r]=r.length:=by unfold an;simp
  refine pD (rs:=[r]) (G:=G) g3 U rfl (λj r' hr'=>?_) U (by simp) λA9 K9 h4 s4 c4 k4=>⟨_,_,_,rfl,hil,?_⟩
  .match j,hr' with
   | 0,hr'=>
    obtain rfl:=Option.some.inj hr';exact⟨_,rfl,A',n',K',rfl,(s.nw k3).z⟩
   | j+1,hr'=>simp at hr'
  have z4:=k4.next;obtain⟨h5,s5,b5,z5,o5⟩:=ax (v:=Y A9 (an [r]) K9) (k4.bk U (k3.bk l2 b2)) (o:=0+i) (by simp;omega) rfl;have es:=mu (xs:=vs) (n:=n) (z:=Y ξ 0 0) (v:=Y A9 (an [r]) K9) U;rw[hvl]at es;rw[Nat.zero_add,es]at b5;refine⟨h5,s5,((i+1:Nat):Int),by rw[ae U U];omega,n - (i+1),U,i+1,_,rfl,hil,rfl,by simp[hvl],b5,⟨U,λb hb=>(o5 b U).trans ((k4.get b U).trans ((k3.get b U).trans (k2.get b hb)))⟩,U,λj v r' hv hr'=>?_⟩;by_cases hj:j<vs.length
  .rw[List.getElem?_append_left hj]at hv;exact(hvs j v r' hv hr').keep (λb hb hlt=>(o5 b U).trans ((k4.get b U).trans (k3.get b hlt))) U
  .rw[List.getElem?_append_right U]at hv;cases hjj:j - vs.length with
   | zero=>
    rw[hjj]at hv;obtain rfl:=Option.some.inj hv;have:j=i:=U;subst this;rw[hrr]at hr';obtain rfl:=Option.some.inj hr';have hfl:[r].flatten=r:=by simp
    rw[hfl]at s4;exact⟨A9,_,K9,rfl,c4,(s4.keep (λb hb _=>o5 b U) U).mono λb hb _=>U⟩
   | succ q=>rw[hjj]at hv;simp at hv
 .obtain rfl:i=n:=U;rw[Nat.sub_self,List.replicate_zero]at b2;refine hK g h2 ⟨hRl,by unfold cx;omega,.inr ⟨g,rfl,l2,λh=>h.2 rfl⟩,λh0=>⟨g,vs,[],rfl,l2,λh=>h.2 rfl,b2,hvl,λj r hr=>?_⟩⟩ U k2;have hj:=(List.getElem?_eq_some_iff.1 hr).1;obtain⟨v,hv⟩:∃v,vs[j]? = ω v:=⟨_,List.getElem?_eq_getElem U⟩;exact⟨v,hv,(hvs j v r hv hr).mono λb hb _=>U⟩
end
end Eva
end
section
open Go Go.RowKit
namespace Eva
def RB (h:AH) (B:Nat->Prop) (A:Option Addr) (n K:Nat) (R:List (List Int)):Prop:=RR h (λz=>¬B z/\¬ai A z) A n K R/\∀z,ai A z->¬B z
def jO (f:FuncId) (fb:Array Value) (I:AH->Prop) (B:Nat->Prop) (S:Nat):Prop:=
 ∀(h1:AH) (A':Option Addr) (n' K':Nat) (R':List (List Int)) (Q':Value->AH->Prop),I h1->RB h1 B A' n' K' R'->A'≠ξ->n'<=S->an R'<=S->(∀h2,I h2->Mt B h1 h2->Q' (.tuple #[]) h2)->WC Tryz.prog f ([Y A' n' K'] ++ Array.toList fb) h1 Q'
section
variable {h h' h0:AH}{Q:Value->AH->Prop}{E F G B:Nat->Prop}{A:Option Addr}{n K m k S:Nat}{R:List (List Int)}{xs:List Int}{f:FuncId}{fb:Array Value}{I:AH->Prop}
theorem RB.mt (q:RB h B A n K R) (a:Mt B h h'):RB h' B A n K R:=⟨q.1.off a λb hb hB=>hb.elim (λh=>h.1 hB) λh=>q.2 b h hB,q.2⟩
theorem RB.nw (q:RB h B A n K R) (a:Nw h h'):RB h' B A n K R:=⟨q.1.nw a,q.2⟩
theorem Gs (s:Sa cI G h A n K xs) (h0:0<n) (hn:n<=1000) (hK:∀g K' h',Bk h' g (xs.map (Value.int .i64)) 3->h.next<=g->g<h'.next->n<=K' / 2->Nw h h'->Q (Y (ω ⟨g,0,ξ⟩) n K') h'):WC Tryz.prog 42 [Y A n K] h Q:=by
 obtain⟨b,o,x,rfl,-⟩:=s.int h0;refine cg ⟨(λhA=>by cases hA),λ_=>⟨b,o,rfl,λh1 e1=>?_⟩⟩;obtain⟨A',K',h',x1,⟨x2,x3⟩,x4,x5⟩:=nT (r:=cI) (bytes:=8) (t:=3) (gR _) dR s.z U U e1;refine⟨A',n,K',h',x1,?_⟩;rcases x3 with⟨-,h1,-⟩ | ⟨g,cells,rfl,-,h2,h3,h4,h5,-,h7⟩
 .omega
 .have hc:cells=xs.map (Value.int .i64):=by
   apply List.ext_getElem?;intro i;by_cases hi:i<n
   .obtain⟨v,hv⟩:∃v,xs[i]? = ω v:=⟨_,List.getElem?_eq_getElem U⟩;have e2:(cells.drop (i*1)).take 1 = [ψ η v]:=h7 i v hv;rw[Nat.mul_one]at e2;have e3:=congrArg (λl:List Value=>l[0]?) e2;simp only[List.getElem?_take,List.getElem?_drop]at e3;rw[List.getElem?_map,hv];simpa using e3
   .rw[List.getElem?_eq_none (by rw[h4];show n*1<=i;omega),List.getElem?_eq_none (by rw[List.length_map];omega)]
  rw[hc]at h3;exact hK g K' h' h3 (x5 g rfl) h2 (by rcases h5 with h5 | h5 <;>rw[h5] <;>first | omega | (unfold cl;omega)) x4
theorem xC {g o:Nat}(hb:Bk h g (xs.map (Value.int .i64)) 3) (ho:o+m<=xs.length) (hm:m<=1000) (hK:∀(ys:List Int) h',ys.length=xs.length->Bk h' g (ys.map (Value.int .i64)) 3->Mt (λb=>b=g) h h'->h'.next=h.next->Q (.tuple #[]) h'):WC Tryz.prog 220 [Y (ω ⟨g,o,ξ⟩) m K] h Q:=by
 refine gj ⟨(m:Int) - 1,ae U U,λw x y h1=>∃(i:Nat) (ys:List Int),x=i/\y=(m:Int) - 1 - i/\i<=m/\w=m - i/\ys.length=xs.length/\Bk h1 g (ys.map (Value.int .i64)) 3/\Mt (λb=>b=g) h h1/\h1.next=h.next,m,⟨0,xs,rfl,U,Nat.zero_le _,rfl,rfl,hb,Mt.refl _ _,rfl⟩,?_⟩;rintro w x y h1 ⟨i,ys,rfl,rfl,hi,rfl,hyl,b1,m1,z1⟩;refine⟨λhlt=>?_,λhge=>hK ys h1 hyl b1 m1 z1⟩;obtain⟨j,hj⟩:∃j:Nat,(m:Int) - 1 - i=j:=⟨m - 1 - i,U⟩;obtain⟨u,hu⟩:∃u,ys[o+j]? = ω u:=⟨_,List.getElem?_eq_getElem U⟩;obtain⟨v,hv⟩:∃v,ys[o+i]? = ω v:=⟨_,List.getElem?_eq_getElem U⟩;obtain⟨h2,s2,b2,z2,o2⟩:=da b1 (k:=o+i) U u;obtain⟨h3,s3,b3,z3,o3⟩:=da b2 (k:=o+j) (by rw[List.length_set];omega) v;rw[Nat.zero_add]at s2 s3;have wi:IntKind.i64.wrap ((i:Int)+1)=((i+1:Nat):Int):=by rw[ae U U];omega
 have wj:IntKind.i64.wrap ((j:Int) - 1)=(m:Int) - 1 - ((i+1:Nat):Int):=by rw[ae U U];omega
 exact⟨j,hj,g,o,rfl,U,u,by rw[aJ b1,List.getElem?_map,hu];rfl,i,rfl,U,v,by rw[aJ b1,List.getElem?_map,hv];rfl,U,h2,s2,U,h3,s3,_,wi,_,wj,m - (i+1),U,i+1,_,rfl,rfl,U,rfl,by rw[List.length_set,List.length_set];exact hyl,b3,⟨U,λb hb hn=>(o3 b hn).trans ((o2 b hn).trans (m1.get b hb hn))⟩,U⟩
theorem xD (q:RB h B A n K R) (h0:0<n) (hn:n<=1000) (hB:∀z,B z->z<h.next) (hK:∀g K' h',RB h' B (ω ⟨g,0,ξ⟩) n K' R->h.next<=g->Nw h h'->Q (Y (ω ⟨g,0,ξ⟩) n K') h'):WC Tryz.prog 77 [Y A n K] h Q:=
 xy q.1 hn λA' K' h' q' lo k'=>by
  rcases q'.shape with⟨-,h1,-⟩ | ⟨g,rfl,-,-⟩
  .omega
  .exact hK g K' h' ⟨q'.mono (λz hz hl=>⟨hz.1.1,λe=>by have:z=g:=e;have:=lo g rfl;omega⟩) λz hz hn=>hn.2 hz,λz hz hb=>by have:=hB z hb;have:=lo z hz;omega⟩ (lo g rfl) k'
theorem Ip (hI:∀h1 h2,I h1->Nw h1 h2->I h2) (ht:1<an R\/1<n->jO f fb I B S) (hg:bh Tryz.prog f=true) (q:RB h B A n K R) (hi:I h) (hn:n<=S) (hs:an R<=S) (hS:S<=1000) (hB:∀z,B z->z<h.next)
  (hK:∀h',I h'->Mt B h h'->Q (.tuple #[]) h'):WC Tryz.prog 150 [Y A n K,.func (.func f) #[] fb] h Q:=by
 have hRl:=q.1.len;refine qA ⟨λw x h1=>∃i:Nat,x=i/\i<=n/\w=n - i/\I h1/\Mt B h h1,n,⟨0,rfl,Nat.zero_le _,rfl,hi,Mt.refl _ _⟩,?_⟩;rintro w x h1 ⟨i,rfl,hin,rfl,i1,m1⟩;refine⟨λhlt=>?_,λhge=>hK h1 i1 m1⟩;have hil:i<n:=U;obtain⟨g,A2,n2,K2,r,hA,-,hr,e,c,s⟩:=(q.mt m1).1.row hil;have hrl:=bC hr;have hsl:=s.len;subst hA;refine⟨i,rfl,g,0,rfl,hil,_,_,_,e,λw x h2=>∃a:Nat,x=a/\a<=n2/\w=n2 - a/\I h2/\Mt B h h2/\Sa cI (λz=>¬B z) h2 A2 n2 K2 r,n2,⟨0,rfl,Nat.zero_le _,rfl,i1,m1,s.mono λz hz _=>hz.1⟩,?_⟩;rintro w x h2 ⟨a,rfl,ha,rfl,i2,m2,s2⟩;refine⟨λhlt=>?_,λhge=>⟨((i+1:Nat):Int),by rw[ae U U];omega,n - (i+1),U,i+1,rfl,hil,rfl,i2,m2⟩⟩;have hal:a<n2:=U;refine⟨((a+1:Nat):Int),by rw[ae U U];omega,λw x h3=>∃b:Nat,x=b/\a<b/\b<=n2/\w=n2 - b/\I h3/\Mt B h h3/\Sa cI (λz=>¬B z) h3 A2 n2 K2 r,n2 - (a+1),⟨a+1,rfl,U,U,rfl,i2,m2,s2⟩,?_⟩;rintro w x h3 ⟨b,rfl,hab,hb,rfl,i3,m3,s3⟩;have z3:=m3.next;refine⟨λhlt=>?_,λhge=>⟨((a+1:Nat):Int),by rw[ae U U];omega,n2 - (a+1),U,a+1,rfl,U,rfl,i3,m3,s3⟩⟩;have hbl:b<n2:=U;refine Gs s3 U U λg4 K4 h4 b4 lo4 l4 c4 k4=>⟨_,_,_,rfl,((b+1:Nat):Int),by rw[ae U U];omega,a,rfl,b+1,rfl,?_⟩;obtain⟨A5,K5,e5,c5,-⟩:=ri (II dR) (b:=g4) (o:=0) (n:=n2) (K:=K4) (lo:=a) (hi:=b+1) (l:=ω a) (u:=ω (b+1)) U U rfl rfl;obtain rfl:=c5 U;refine⟨_,_,_,e5,xC b4 U U λys h5 hyl b5 m5 z5=>⟨rfl,?_⟩⟩;have z4:=k4.next;have nB4:∀z,g4<=z->¬B z:=λz hz hb=>by have:=hB z hb;omega
 have k35:Nw h3 h5:=m5.is_nw k4 λz hz=>U;have q5:=(q.mt m3).nw k35;refine xD q5 U U (λz hz=>by have:=hB z hz;omega) λg6 K6 h6 q6 lo6 k6=>⟨_,_,_,rfl,g6,0,rfl,hil,?_⟩;have z6:=k6.next;have b6:=k6.bk U b5;obtain⟨h7,s7,q7,z7,o7⟩:=q6.1.set hil (v:=Y (ω ⟨g4,0,ξ⟩) n2 K4) (r:=ys) ⟨_,_,K4,rfl,c4,Sa.of_ints b6 U ⟨nB4 g4 (Nat.le_refl _),λe=>by have:g4=g6:=e;omega⟩ U⟩;have hsum:=ck (r':=ys) hr;have k37:Nw h3 h7:=⟨U,λz hz=>(o7 z U).trans ((k35.trans k6).get z hz)⟩;refine⟨h7,s7,hg,ht (.inl U) h7 _ _ _ _ _ (hI h3 h7 i3 k37) ⟨q7,q6.2⟩ (λh=>by cases h) hn U λh8 i8 m8=>⟨rfl,((b+1:Nat):Int),by rw[ae U U];omega,n2 - (b+1),U,b+1,rfl,U,hbl,rfl,i8,(m3.nw k37).then m8,(s3.nw k37).off m8 λz hz hb=>hz hb⟩⟩
end
end Eva
end
section
open Go Go.RowKit
namespace Eva
section
variable {h h' h0:AH}{Q:Value->AH->Prop}{E F G B:Nat->Prop}{A:Option Addr}{n K m k S:Nat}{R:List (List Int)}{xs:List Int}{f:FuncId}{fb:Array Value}{I:AH->Prop}
theorem AF {lo hi:Nat}{l u:Option Nat}(s:Sa cI G h A n K xs) (hc:n<=K / 2) (h1:lo<=hi) (h2:hi<=n) (hl:l.getD 0=lo) (hu:u.getD n=hi):∃A' K',am Tryz.prog 3 A n K l u ξ=ω (Y A' (hi - lo) K')/\Sz cI G h A' (hi - lo) K' ((xs.drop lo).take (hi - lo)):=by
 have hxl:=s.len;have hlen:((xs.drop lo).take (hi - lo)).length=hi - lo:=by rw[List.length_take,List.length_drop];omega
 rcases s.shape with⟨rfl,rfl,rfl⟩ | ⟨b,o,rfl⟩
 .obtain rfl:hi=0:=U;obtain rfl:lo=0:=U;refine⟨ξ,0,?_,hlen,λh=>absurd h U⟩;obtain⟨i,hi,hsz,-⟩:=bg dR;unfold am;rw[hi];simp only[hl,hu];rfl
 .obtain⟨A',K',e,c,-⟩:=ri (II dR) (b:=b) (o:=o) (n:=n) (K:=K) (lo:=lo) (hi:=hi) (l:=l) (u:=u) h1 U hl hu;refine⟨A',K',e,hlen,λh0=>?_⟩;obtain⟨b',o',hA,hF,hb,hx⟩:=s.at_ U;injection hA with hA;injection hA with p1 p2;subst p1 p2;refine⟨b,o+lo,c U,hF,hb,λk x hk=>?_⟩;have hk':xs[lo+k]? = ω x:=by
   rw[List.getElem?_take]at hk
   split at hk
   .rw[List.getElem?_drop]at hk;exact hk
   .cases hk
  obtain⟨cs,hc,hr⟩:=hx _ _ hk';refine⟨cs,λj u hj=>?_,hr⟩;have:=hc j u hj;rw[show o+lo+(k*cI.size+j)=o+((lo+k)*cI.size+j) by show o+lo+(k*1+j)=o+((lo+k)*1+j);omega];exact this
theorem JS {g i j b n5 K5 no Ko:Nat}{A5 Ao:Option Addr}{lf ol:List Int}{x:Int}{Kont:Nat->AH->Prop}(hI:∀h1 h2,I h1->Nw h1 h2->I h2) (ht:jO f fb I B S) (hg:bh Tryz.prog f=true) (q:RB h B (ω ⟨g,0,ξ⟩) n K R) (hin:i<n) (hjn:j<n) (hn:n<=S) (hS:S<=1000) (hB:∀z,B z->z<h.next)
  (sf:Sa cI (λz=>¬B z) h A5 n5 K5 lf) (cf:n5<=K5 / 2) (so:Sa cI (λz=>¬B z) h Ao no Ko ol) (co:no<=Ko / 2) (hb:b<=no) (ho:no<=S) (hsum:an ((R.set i lf).set j (ol.take b ++ [x] ++ ol.drop b))<=S) (hi:I h) (hK:∀h',I h'->Mt B h h'->Kont b h') :
  CS 77 [Y (ω ⟨g,0,ξ⟩) n K] h λA7 n7 K7 h7=>AQ A7 λb_3 o_3=>i<n7/\ST h7 b_3 (o_3+i) [Y A5 n5 K5] λh8=>NK (b:Int) λk5=>∃A8 n8 K8,am Tryz.prog 3 Ao no Ko ξ (ω k5) ξ=ω (Y A8 n8 K8)/\NW h8 (.cells [ψ η x] 3 false) λh9=>∃A9 n9 K9,am Tryz.prog 3 Ao no Ko (ω k5) ξ ξ=ω (Y A9 n9 K9)/\NW h9 (.cells [Y A8 n8 K8,Y (ω ⟨h8.next,0,ξ⟩) 1 2,Y A9 n9 K9] 58 false) λh10=>CS 71 [Y (ω ⟨h9.next,0,ξ⟩) 3 6] h10 λA10 n10 K10 h11=>j<n7/\ST h11 b_3 (o_3+j) [Y A10 n10 K10] λh12=>i<n7/\LZ h12 b_3 (o_3+i) λA11 n11 K11=>TS ((n11:Int)=0)
   (WR ((i:Int)+1) λx8=>CS 73 [Y (ω ⟨b_3,o_3,ξ⟩) n7 K7,ψ η (i:Int),ψ η x8] h12 λA12 n12 K12 h13=>bh Tryz.prog f=true/\WC Tryz.prog f ([Y A12 n12 K12] ++ Array.toList fb) h13 (λv1 h14=>v1 = .tuple #[]/\Kont k5 h14))
   (bh Tryz.prog f=true/\WC Tryz.prog f ([Y (ω ⟨b_3,o_3,ξ⟩) n7 K7] ++ Array.toList fb) h12 (λv3 h15=>v3 = .tuple #[]/\Kont k5 h15)):=by
 refine xD q U U hB λg7 K7 h7 q7 lo7 k7=>⟨_,_,_,rfl,g7,0,rfl,hin,?_⟩;have z7:=k7.next;have nB:∀z,h.next<=z->¬B z:=λz hz hb=>by have:=hB z hb;omega
 have old:∀{A n K xs},Sa cI (λz=>¬B z) h A n K xs->Sa cI (λz=>¬B z/\z<h.next) h A n K xs:=λs=>s.mono λz hz hl=>⟨hz,hl⟩;have l7:g7<h7.next:=by
  obtain⟨g',vs,rest,hA,h1,-⟩:=q7.1.at_ U;injection hA with hA;injection hA with hA;subst hA;exact h1
 obtain⟨h8,s8,q8,z8,o8⟩:=q7.1.set hin (v:=Y A5 n5 K5) (r:=lf) ⟨_,_,_,rfl,cf,((old sf).nw k7).mono λz hz _=>⟨hz.1,λe=>by have:z=g7:=e;omega⟩⟩;have k8:Nw h h8:=⟨U,λz hz=>(o8 z U).trans (k7.get z hz)⟩;obtain⟨A8,K8,e8,sz8⟩:=AF ((old so).nw k8) co (lo:=0) (hi:=b) (l:=ξ) (u:=ω b) (Nat.zero_le _) hb rfl rfl;refine⟨h8,s8,b,rfl,_,_,_,e8,λh9 e9=>?_⟩;obtain⟨k9,g9,z9⟩:=aj e9;obtain⟨A9,K9,e9',sz9⟩:=AF ((old so).nw (k8.trans k9)) co (lo:=b) (hi:=no) (l:=ω b) (u:=ξ) hb (Nat.le_refl _) rfl rfl;refine⟨_,_,_,e9',λh10 e10=>?_⟩;obtain⟨k10,g10,z10⟩:=aj e10;have hol:=so.len;have ht1:(ol.drop 0).take (b - 0)=ol.take b:=by simp
 have ht2:(ol.drop b).take (no - b)=ol.drop b:=List.take_of_length_le (by rw[List.length_drop];omega);rw[ht1]at sz8;rw[ht2]at sz9;have hfl:[ol.take b,[x],ol.drop b].flatten=ol.take b ++ [x] ++ ol.drop b:=by simp
 have hsl:an [ol.take b,[x],ol.drop b]=no+1:=by unfold an;simp;omega
 have sx:Sz cI (λz=>z=h8.next) h9 (ω ⟨h8.next,0,ξ⟩) 1 2 [x]:=Sz.one g9 rfl U rfl rfl;refine pD (rs:=[ol.take b,[x],ol.drop b]) (G:=λ_=>True) g10 U rfl (λi' r hr=>?_) U (by simp) λA10 K10 h11 s11 c11 k11=>⟨_,_,_,rfl,hjn,?_⟩
 .match i',hr with
  | 0,hr=>
   obtain rfl:=Option.some.inj hr;exact⟨_,rfl,_,_,_,rfl,((sz8.nw k9).nw k10).mono λz hz _=>trivial⟩
  | 1,hr=>
   obtain rfl:=Option.some.inj hr;exact⟨_,rfl,_,_,_,rfl,(sx.nw k10).mono λz hz _=>trivial⟩
  | 2,hr=>
   obtain rfl:=Option.some.inj hr;exact⟨_,rfl,_,_,_,rfl,(sz9.nw k10).mono λz hz _=>trivial⟩
  | i' + 3,hr=>simp at hr
 have z11:=k11.next;have k811:=(k9.trans k10).trans k11;rw[hfl]at s11;obtain⟨h12,s12,q12,z12,o12⟩:=(q8.nw k811).set hjn (v:=Y A10 (an [ol.take b,[x],ol.drop b]) K10) (r:=ol.take b ++ [x] ++ ol.drop b) ⟨_,_,_,rfl,c11,s11.mono λz hz _=>⟨nB z U,λe=>by have:z=g7:=e;omega⟩⟩;have k12:Nw h h12:=⟨U,λz hz=>(o12 z U).trans ((k811.get z U).trans (k8.get z hz))⟩;have i12:=hI h h12 hi k12;obtain⟨g',A11,n11,K11,r11,hA11,-,hr11,e11,c11',s11'⟩:=q12.row hin;injection hA11 with hA11;injection hA11 with hA11;subst hA11;have hsn:=s11'.len;refine⟨h12,s12,hin,A11,n11,K11,e11,λh0=>⟨((i+1:Nat):Int),by rw[ae U U];omega,tG q12 hin U λh13 q13 m13 z13=>⟨_,_,_,rfl,hg,?_⟩⟩,λh0=>⟨hg,ht h12 _ _ _ _ _ i12 ⟨q12,q7.2⟩ (λh=>by cases h) hn hsum λh14 i14 m14=>⟨rfl,hK h14 i14 ((Mt.of k12).trans m14 λz hz _=>hz)⟩⟩⟩;have hse:=iI hr11;have k13:Nw h h13:=m13.is_nw k12 λz hz=>by have:z=g7:=hz;omega
 exact ht h13 _ _ _ _ _ (hI h h13 hi k13) ⟨q13,q7.2⟩ (λh=>by cases h) U U λh14 i14 m14=>⟨rfl,hK h14 i14 ((Mt.of k13).trans m14 λz hz _=>hz)⟩
set_option maxHeartbeats 1000000 in
theorem Iq (hI:∀h1 h2,I h1->Nw h1 h2->I h2) (ht:1<an R\/1<n->jO f fb I B S) (hg:bh Tryz.prog f=true) (q:RB h B A n K R) (hi:I h) (hn:n<=S) (hs:an R<=S) (hS:S<=1000) (hB:∀z,B z->z<h.next)
  (hK:∀h',I h'->Mt B h h'->Q (.tuple #[]) h'):WC Tryz.prog 151 [Y A n K,.func (.func f) #[] fb] h Q:=by
 have hRl:=q.1.len;refine qB ⟨λw x h1=>∃i:Nat,x=i/\i<=n/\w=n - i/\I h1/\Mt B h h1,n,⟨0,rfl,Nat.zero_le _,rfl,hi,Mt.refl _ _⟩,?_⟩;rintro w x h1 ⟨i,rfl,hin,rfl,i1,m1⟩;refine⟨λhlt=>?_,λhge=>hK h1 i1 m1⟩;have hil:i<n:=U;obtain⟨g,A2,n2,K2,r,hA,-,hr,e,c,s⟩:=(q.mt m1).1.row hil;have hrl:=bC hr;have hsl:=s.len;subst hA;refine⟨i,rfl,g,0,rfl,hil,_,_,_,e,λw x h2=>∃a:Nat,x=a/\a<=n2/\w=n2 - a/\I h2/\Mt B h h2/\Sa cI (λz=>¬B z) h2 A2 n2 K2 r,n2,⟨0,rfl,Nat.zero_le _,rfl,i1,m1,s.mono λz hz _=>hz.1⟩,?_⟩;rintro w x h2 ⟨a,rfl,ha,rfl,i2,m2,s2⟩;refine⟨λhlt=>?_,λhge=>⟨((i+1:Nat):Int),by rw[ae U U];omega,n - (i+1),U,i+1,rfl,hil,rfl,i2,m2⟩⟩;have hal:a<n2:=U;have z2:=m2.next;obtain⟨b2,o2,x3,rfl,-,-,hx3,e3⟩:=s2.int hal;obtain⟨A3,K3,c3,sz3⟩:=AF s2 c (lo:=0) (hi:=a) (l:=ξ) (u:=ω a) (Nat.zero_le _) ha rfl rfl;obtain⟨A4,K4,c4,sz4⟩:=AF s2 c (lo:=a+1) (hi:=n2) (l:=ω (a+1)) (u:=ξ) hal (Nat.le_refl _) rfl rfl;refine⟨a,rfl,b2,o2,rfl,hal,x3,e3,_,_,_,c3,((a+1:Nat):Int),by rw[ae U U];omega,a+1,rfl,_,_,_,c4,λh3 e3'=>?_⟩;obtain⟨k3,g3,z3⟩:=aj e3';have ht1:(r.drop 0).take (a - 0)=r.take a:=by simp
 have ht2:(r.drop (a+1)).take (n2 - (a+1))=r.drop (a+1):=List.take_of_length_le (by rw[List.length_drop];omega);rw[ht1]at sz3;rw[ht2]at sz4;have hfl:[r.take a,r.drop (a+1)].flatten=r.take a ++ r.drop (a+1):=by simp
 have hsl2:an [r.take a,r.drop (a+1)]=n2 - 1:=by unfold an;simp;omega
 refine pD (rs:=[r.take a,r.drop (a+1)]) (G:=λ_=>True) g3 U rfl (λi' r' hr'=>?_) U (by simp) λA5 K5 h4 s5 c5 k5=>⟨_,_,_,rfl,?_⟩
 .match i',hr' with
  | 0,hr'=>
   obtain rfl:=Option.some.inj hr';exact⟨_,rfl,_,_,_,rfl,(sz3.nw k3).mono λz hz _=>trivial⟩
  | 1,hr'=>
   obtain rfl:=Option.some.inj hr';exact⟨_,rfl,_,_,_,rfl,(sz4.nw k3).mono λz hz _=>trivial⟩
  | i' + 2,hr'=>simp at hr'
 rw[hfl]at s5;have z5:=k5.next;have k24:=k3.trans k5;have s5':Sa cI (λz=>¬B z) h4 A5 (an [r.take a,r.drop (a+1)]) K5 (r.take a ++ r.drop (a+1)):=s5.mono λz hz _ hb=>by have:=hB z hb;omega
 rw[hsl2]at s5' c5⊢;have hll:(r.take a ++ r.drop (a+1)).length=n2 - 1:=by rw[List.length_append,List.length_take,List.length_drop];omega
 have hI4:=hI h2 h4 i2 k24;refine⟨λw x h5=>∃j:Nat,x=j/\j<=n/\w=n - j/\I h5/\Mt B h h5/\Mt B h4 h5,n,⟨0,rfl,Nat.zero_le _,rfl,hI4,m2.nw k24,Mt.refl _ _⟩,?_⟩;rintro w x h5 ⟨j,rfl,hj,rfl,i5,m5,m45⟩;have z45:=m45.next;refine⟨λhlt=>?_,λhge=>⟨((a+1:Nat):Int),by rw[ae U U];omega,n2 - (a+1),U,a+1,rfl,U,rfl,i5,m5,((s2.nw k24).off m45 λz hz hb=>hz hb)⟩⟩;have hjl:j<n:=U;obtain⟨g',A6,n6,K6,r6,hA6,-,hr6,e6,c6,s6⟩:=(q.mt m5).1.row hjl;injection hA6 with hA6;injection hA6 with hA6;subst hA6;have hrl6:=bC hr6;have hsl6:=s6.len;have nextJ:∀h',I h'->Mt B h h'->Mt B h4 h'->∃x:Int,IntKind.i64.wrap ((j:Int)+1)=x/\∃w',w' < n - j/\∃j:Nat,x=j/\j<=n/\w' = n - j/\I h'/\Mt B h h'/\Mt B h4 h':=λh' i' m' m4'=>⟨((j+1:Nat):Int),by rw[ae U U];omega,n - (j+1),U,j+1,rfl,hjl,rfl,i',m',m4'⟩;have hs1:=ck (r':=r.take a ++ r.drop (a+1)) hr;refine⟨j,rfl,hjl,_,_,_,e6,λhji=>?_,λhji=>?_⟩
 .obtain rfl:j=i:=U;refine⟨λw x h6=>∃b:Nat,x=b/\b<=n2/\w=n2 - b/\I h6/\Mt B h h6/\Mt B h4 h6,n2,⟨0,rfl,Nat.zero_le _,rfl,i5,m5,m45⟩,?_⟩;rintro w x h6 ⟨b,rfl,hb,rfl,i6,m6,m46⟩;have z46:=m46.next;have again:∀h',I h'->Mt B h h'->Mt B h4 h'->b<n2->∃x:Int,IntKind.i64.wrap ((b:Int)+1)=x/\∃w',w' < n2 - b/\∃b:Nat,x=b/\b<=n2/\w' = n2 - b/\I h'/\Mt B h h'/\Mt B h4 h':=λh' i' m' m4' hb'=>⟨((b+1:Nat):Int),by rw[ae U U];omega,n2 - (b+1),U,b+1,rfl,hb',rfl,i',m',m4'⟩;refine⟨λhle=>⟨λ_=>⟨λhba=>again h6 i6 m6 m46 U,λhba=>?_⟩,λh=>absurd rfl h⟩,λhgt=>nextJ h6 i6 m6 m46⟩;have s56:=s5'.off m46 λz hz hb=>hz hb;have hs2:=ck (R:=R.set j (r.take a ++ r.drop (a+1))) (i:=j) (r:=r.take a ++ r.drop (a+1)) (r':=(r.take a ++ r.drop (a+1)).take b ++ [x3] ++ (r.take a ++ r.drop (a+1)).drop b) (by rw[List.getElem?_set,if_pos rfl,if_pos (by rw[hRl];exact hil)]);have hl2:((r.take a ++ r.drop (a+1)).take b ++ [x3] ++ (r.take a ++ r.drop (a+1)).drop b).length=n2:=by
   rw[List.length_append,List.length_append,List.length_take,List.length_drop,hll,List.length_singleton];omega
  have body:=JS (K:=K) (i:=j) (j:=j) (b:=b) (n5:=n2 - 1) (K5:=K5) (no:=n2 - 1) (Ko:=K5) (A5:=A5) (Ao:=A5) (lf:=r.take a ++ r.drop (a+1)) (ol:=r.take a ++ r.drop (a+1)) (x:=x3) (Kont:=λk5 h'=>∃x:Int,IntKind.i64.wrap ((k5:Int)+1)=x/\∃w',w' < n2 - b/\∃b:Nat,x=b/\b<=n2/\w' = n2 - b/\I h'/\Mt B h h'/\Mt B h4 h') hI (ht (.inl U)) hg (q.mt m6) hil hil hn hS (λz hz=>by have:=hB z hz;omega) s56 c5 s56 c5 U U U i6 λh' i' m'=>again h' i' (m6.then m') (m46.then m') U;exact body
 .have hij:j≠i:=λe=>hji (by rw[e]);have hr6':(R.set i (r.take a ++ r.drop (a+1)))[j]? = ω r6:=by rw[List.getElem?_set,if_neg (Ne.symm hij)];exact hr6
  refine⟨λw x h6=>∃b:Nat,x=b/\b<=n6+1/\w=n6+1 - b/\I h6/\Mt B h h6/\Mt B h4 h6/\Sa cI (λz=>¬B z) h6 A6 n6 K6 r6,n6+1,⟨0,rfl,Nat.zero_le _,rfl,i5,m5,m45,s6.mono λz hz _=>hz.1⟩,?_⟩;rintro w x h6 ⟨b,rfl,hb,rfl,i6,m6,m46,s66⟩;have z46:=m46.next;refine⟨λhle=>⟨λh=>absurd h hji,λ_=>?_⟩,λhgt=>nextJ h6 i6 m6 m46⟩;have s56:=s5'.off m46 λz hz hb=>hz hb;have hle':b<=n6:=U;have hs2:=ck (r':=r6.take b ++ [x3] ++ r6.drop b) hr6';have hl2:(r6.take b ++ [x3] ++ r6.drop b).length=n6+1:=by
   rw[List.length_append,List.length_append,List.length_take,List.length_drop,List.length_singleton];omega
  have body:=JS (K:=K) (i:=i) (j:=j) (b:=b) (n5:=n2 - 1) (K5:=K5) (no:=n6) (Ko:=K6) (A5:=A5) (Ao:=A6) (lf:=r.take a ++ r.drop (a+1)) (ol:=r6) (x:=x3) (Kont:=λk5 h'=>∃x:Int,IntKind.i64.wrap ((k5:Int)+1)=x/\∃w',w' < n6+1 - b/\∃b:Nat,x=b/\b<=n6+1/\w' = n6+1 - b/\I h'/\Mt B h h'/\Mt B h4 h'/\Sa cI (λz=>¬B z) h' A6 n6 K6 r6) hI (ht (.inr U)) hg (q.mt m6) hil hjl hn hS (λz hz=>by have:=hB z hz;omega) s56 c5 s66 c6 hle' U U i6 λh' i' m'=>⟨((b+1:Nat):Int),by rw[ae U U];omega,n6+1 - (b+1),U,b+1,rfl,U,rfl,i',m6.then m',m46.then m',s66.off m' λz hz hb=>hz hb⟩;exact body
end
end Eva
end
section
open Go Go.RowKit
namespace Eva
structure zh (B:Nat->Prop) (dB lB jB bB:Nat) (A2:Option Addr) (m K2:Nat) (d cap lim:Int) (A:Option Addr) (n K:Nat) (T:List (List Nat)) (now:Int) (S:Nat) (E F:Nat->Prop) (st:List (Int×Int)) (h:AH):Prop where
 dv:Bk h dB [Y A2 m K2] 91
 jv:Bk h jB [ψ η d,ψ η cap,ψ η lim,Y A n K] 48
 lt:dB<h.next/\lB<h.next/\jB<h.next/\bB<h.next
 far:¬B dB/\¬B jB/\B lB/\B bB/\lB≠bB/\∀z,E z\/F z->¬B z
 st_:Sa jo E h A n K st
 sT:Sa aM F h A2 m K2 (T.map dz)
 best:∃L Ab nb Kb,Bk h lB [ψ η L] 2/\Bk h bB [Y Ab nb Kb] 27/\((Ab=ξ/\nb=0/\Kb=0/\L=now)\/(Ab≠ξ/\∃R',RB h B Ab nb Kb R'/\L=fD T m R'/\L<now/\an R'<=S/\nb<=S))
section
variable {h h' h0:AH}{Q:Value->AH->Prop}{E F G B:Nat->Prop}{A A2 A3:Option Addr}{n K K2 K3 m k S dB lB jB bB na:Nat}{d cap lim now:Int}{st:List (Int×Int)}{T:List (List Nat)}{R:List (List Int)}
theorem zh.nw (o:zh B dB lB jB bB A2 m K2 d cap lim A n K T now S E F st h) (k:Nw h h'):zh B dB lB jB bB A2 m K2 d cap lim A n K T now S E F st h':=by
 obtain⟨l1,l2,l3,l4⟩:=o.lt;obtain⟨L,Ab,nb,Kb,b1,b2,b3⟩:=o.best;have z:=k.next;exact⟨k.bk l1 o.dv,k.bk l3 o.jv,U,o.far,o.st_.nw k,o.sT.nw k,L,Ab,nb,Kb,k.bk l2 b1,k.bk l4 b2,b3.imp id λ⟨p,R',q1,q2⟩=>⟨p,R',q1.nw k,q2⟩⟩
theorem RB.rows (q:RB h B A n K R):Sa aM (λb=>(¬B b/\¬ai A b)\/ai A b) h A n K R:=q.1.sa
theorem Lk (hT:eJ m T) (hm:0<m) (hn:n<=1000) (hS:S<=1000):jO 149 #[ν (ω ⟨dB,0,ξ⟩),ν (ω ⟨lB,0,ξ⟩),ν (ω ⟨jB,0,ξ⟩),ν (ω ⟨bB,0,ξ⟩)] (zh B dB lB jB bB A2 m K2 d cap lim A n K T now S E F st) B S:=by
 intro h A' n' K' R' Q' o q hA' hn' hs hQ;obtain⟨l1,l2,l3,l4⟩:=o.lt;obtain⟨f1,f2,f3,f4,f5,f6⟩:=o.far;obtain⟨L,Ab,nb,Kb,b1,b2,b3⟩:=o.best;have hr:∀r∈R',r.length<=1000:=λr hr=>by
  obtain⟨i,hi⟩:=List.getElem?_of_mem hr;have:=bC hi;omega
 refine qD ⟨dB,0,rfl,_,_,_,aa o.dv rfl,zf hT o.sT hm q.rows U hr ⟨_,rfl,lB,0,rfl,L,aa b1 rfl,λhlt=>⟨jB,0,rfl,_,_,_,_,_,_,by rw[bo o.jv (by simp)];rfl,_,_,_,aa o.dv rfl,zg o.st_ hn hT o.sT hm q.rows U U λh2 k2=>⟨_,rfl,λ_=>?_,λ_=>hQ h2 (o.nw k2) (Mt.of k2)⟩⟩,λ_=>hQ h o (Mt.refl _ _)⟩⟩;have o2:=o.nw k2;have z2:=k2.next;obtain⟨h3,s3,b3',z3,o3⟩:=ax (v:=ψ η (fD T m R')) (k2.bk l2 b1) (o:=0) (by simp) rfl;obtain⟨h4,s4,b4,z4,o4⟩:=ax (v:=Y A' n' K') ((o3 bB (Ne.symm f5)).trans (k2.bk l4 b2)) (o:=0) (by simp) rfl;have m4:Mt B h2 h4:=⟨U,λz hz hb=>(o4 z λe=>hb (e ▸ f4)).trans (o3 z λe=>hb (e ▸ f3))⟩;have m04:=(Mt.of (S:=B) k2).then m4;obtain⟨L',Ab',nb',Kb',b1',b2',b3''⟩:=o.best;refine⟨h3,s3,bB,0,rfl,h4,s4,hQ h4 ⟨m4.bk U f1 o2.dv,m4.bk U f2 o2.jv,U,o.far,o2.st_.off m4 λz hz=>f6 z (.inl hz),o2.sT.off m4 λz hz=>f6 z (.inr hz),fD T m R',A',n',K',(o4 lB f5).trans b3',b4,.inr ⟨hA',R',q.mt m04,rfl,?_,hs,hn'⟩⟩ m04⟩;rcases b3 with⟨-,-,-,e⟩ | ⟨-,R'',-,-,e,-⟩
 .rw[<-e];exact hlt
 .omega
theorem JT (s:Sa jo E h A n K st) (hn:n<=1000) (hT:eJ m T) (sT:Sa aM F h A2 m K2 (T.map dz)) (hm:0<m) (q:RR h G A3 k K3 R) (hk:k<=S) (hs:an R<=S) (hS:S<=1000)
  (hK0:∀h',Nw h h'->nW n st cap lim T m R=false->Q (.tuple #[Y ξ 0 0,ψ η 0]) h')
  (hK1:∀g k' (R':List (List Int)) h',RR h' (λz=>h.next<=z/\z≠g) (ω ⟨g,0,ξ⟩) k' (cx k') R'->h.next<=g->k'<=S->an R'<=S->Nw h h'->((R' = R/\k' = k)\/(fD T m R' < fD T m R/\(1<an R\/1<k)))->Q (.tuple #[Y (ω ⟨g,0,ξ⟩) k' (cx k'),ψ η (fD T m R - fD T m R')]) h') :
  WC Tryz.prog 79 [.agg #[ψ η d,ψ η cap,ψ η lim,Y A n K],Y A2 m K2,Y A3 k K3] h Q:=by
 have hRl:=q.len;have hr:∀r∈R,r.length<=1000:=λr hr=>by
  obtain⟨i,hi⟩:=List.getElem?_of_mem hr;have:=bC hi;omega
 refine uO λh1 e1 h2 e2=>?_;obtain⟨k1,z1,ld⟩:=mw e1;have g1:Bk h1 h.next [ψ η d,ψ η cap,ψ η lim,Y A n K] 48:=(aj e1).2.1;obtain⟨k2,g2,z2⟩:=aj e2;have k02:=k1.trans k2;refine⟨_,_,_,_,_,_,(ld h2 k2).2.2.2.2,_,_,_,aa g2 rfl,zg (s.nw k02) hn hT (sT.nw k02) hm (q.nw k02).sa U U λh3 k3=>⟨_,rfl,λhb=>?_,λhb=>hK0 h3 (k02.trans k3) hb⟩⟩;have k03:=k02.trans k3;have z3:=k3.next;refine⟨_,_,_,aa (k3.bk U g2:Bk h3 _ _ _) rfl,zf hT (sT.nw k03) hm (q.nw k03).sa U hr ⟨_,rfl,λh5 e5=>?_⟩⟩;obtain⟨h6,s6,k6,g6,z6⟩:=aD (vs:=[ψ η (fD T m R)]) e5 rfl (by simp[flat]);refine⟨h6,s6,λh7 e7=>?_⟩;obtain⟨k7,g7,z7⟩:=aj e7;have k07:=(k03.trans k6).trans k7;obtain⟨lB,hlB⟩:∃lB,lB=h3.next:=⟨_,rfl⟩;obtain⟨bB,hbB⟩:∃bB,bB=h6.next:=⟨_,rfl⟩;rw[<-hlB]at g6 s6⊢;rw[<-hbB]at g7⊢;have zz1:=k1.next;obtain⟨B,hB⟩:∃B:Nat->Prop,∀z,B z↔z=lB\/z=bB:=⟨_,λ_=>Iff.rfl⟩;have nB:∀z,z<h3.next->¬B z:=λz hz hb=>((hB z).1 hb).elim (λe=>U) (λe=>U);have O7:zh B h1.next lB h.next bB A2 m K2 d cap lim A n K T (fD T m R) S (λz=>E z/\z<h.next) (λz=>F z/\z<h.next) st h7:=by
  refine⟨((k3.trans k6).trans k7).bk U g2,(((k2.trans k3).trans k6).trans k7).bk U g1,⟨U,U,U,U⟩,⟨nB _ U,nB _ U,(hB _).2 (.inl rfl),(hB _).2 (.inr rfl),U,λz hz=>nB z (by rcases hz with h | h <;>omega)⟩,(s.mono λz hz hl=>⟨hz,hl⟩).nw k07,(sT.mono λz hz hl=>⟨hz,hl⟩).nw k07,_,ξ,0,0,k7.bk U g6,g7,.inl ⟨rfl,rfl,rfl,rfl⟩⟩
 have lA:∀z,ai A3 z->z<h.next/\¬G z:=λz hz=>by
  rcases q.shape with⟨e,-⟩ | ⟨b,e,l,ng⟩
  .rw[e]at hz;exact hz.elim
  .rw[e]at hz;have:z=b:=hz;exact⟨U,this ▸ ng⟩
 have q7:RB h7 B A3 k K3 R:=⟨((q.mono (G':=λz=>G z/\z<h.next) (λz hz hl=>⟨hz,hl⟩) (λz ho hz=>(lA z ho).2 hz.1)).nw k07).mono (λz hz _=>⟨nB z U,λho=>(lA z ho).2 hz.1⟩) λz ho hz=>hz.2 ho,λz ho=>nB z (by have:=lA z ho;omega)⟩;have tr:jO 149 #[ν (ω ⟨h1.next,0,ξ⟩),ν (ω ⟨lB,0,ξ⟩),ν (ω ⟨h.next,0,ξ⟩),ν (ω ⟨bB,0,ξ⟩)] (zh B h1.next lB h.next bB A2 m K2 d cap lim A n K T (fD T m R) S (λz=>E z/\z<h.next) (λz=>F z/\z<h.next) st) B S:=Lk hT hm hn hS;obtain⟨I,hI⟩:∃I:AH->Prop,∀h',I h'↔zh B h1.next lB h.next bB A2 m K2 d cap lim A n K T (fD T m R) S (λz=>E z/\z<h.next) (λz=>F z/\z<h.next) st h'/\((1<an R\/1<k)\/(Bk h' lB [ψ η (fD T m R)] 2/\Bk h' bB [Y ξ 0 0] 27)):=⟨_,λ_=>Iff.rfl⟩;have hInw:∀h1 h2,I h1->Nw h1 h2->I h2:=λh1 h2 i k'=>by
  obtain⟨i1,i2⟩:=(hI h1).1 i;exact(hI h2).2 ⟨i1.nw k',i2.imp id λ⟨p1,p2⟩=>⟨k'.bk i1.lt.2.1 p1,k'.bk i1.lt.2.2.2 p2⟩⟩
 have hIt:1<an R\/1<k->jO 149 #[ν (ω ⟨h1.next,0,ξ⟩),ν (ω ⟨lB,0,ξ⟩),ν (ω ⟨h.next,0,ξ⟩),ν (ω ⟨bB,0,ξ⟩)] I B S:=λhg h1 A' n' K' R' Q' i q' hA' hn' hs' hQ=>
  tr h1 A' n' K' R' Q' ((hI h1).1 i).1 q' hA' hn' hs' λh2 i2 m2=>hQ h2 ((hI h2).2 ⟨i2,.inl hg⟩) m2
 have I7:I h7:=(hI h7).2 ⟨O7,.inr ⟨k7.bk U g6,g7⟩⟩;have hBl:∀z,B z->z<h7.next:=λz hz=>((hB z).1 hz).elim (λe=>U) (λe=>U);have hg:bh Tryz.prog 149=true:=by kernel_rfl
 refine Ip hInw hIt hg q7 I7 hk hs hS hBl λh8 I8 m8=>⟨rfl,Iq hInw hIt hg (q7.mt m8) I8 hk hs hS (λz hz=>by have:=hBl z hz;have:=m8.next;omega) λh9 I9 m9=>⟨rfl,?_⟩⟩;have m79:=m8.then m9;have z79:=m79.next;have k09:Nw h h9:=m79.is_nw k07 λz hz=>((hB z).1 hz).elim (λe=>U) (λe=>U);obtain⟨O9,alt⟩:=(hI h9).1 I9;obtain⟨L,Ab,nb,Kb,b1,b2,b3⟩:=O9.best;obtain⟨t1,t2,t3,t4⟩:=O9.lt;have hT0:=vk T m R;refine⟨_,_,_,aa b2 rfl,λhA=>?_,λhA=>?_⟩
 .rcases b3 with⟨rfl,rfl,rfl,rfl⟩ | ⟨hne,-⟩
  .obtain⟨h10,s10,b10,z10,o10⟩:=ax (v:=Y A3 k K3) b2 (o:=0) (by simp) rfl;have m10:Mt B h9 h10:=⟨U,λz _ hn=>o10 z λe=>hn ((hB z).2 (.inr e))⟩;have k010:Nw h h10:=m10.is_nw k09 λz hz=>((hB z).1 hz).elim (λe=>U) (λe=>U);have bL:Bk h10 lB [ψ η (fD T m R)] 2:=(o10 lB U).trans b1;refine⟨rfl,rfl,h10,s10,_,_,_,aa b10 rfl,_,aa bL rfl,0,by rw[Int.sub_self];rfl,EK ((q7.mt m79).mt m10).1 U U λg h11 q11 lo11 k11=>⟨_,_,_,rfl,aa (k11.bk U bL:Bk h11 _ _ _) rfl,aa (k11.bk U bL:Bk h11 _ _ _) rfl,?_⟩⟩;have:=hK1 g k R h11 (q11.mono (λz hz _=>⟨by have:=k010.next;omega,hz.2⟩) λz ho hz=>hz.2 ho) (by have:=k010.next;omega) hk hs (k010.trans k11) (.inl ⟨rfl,rfl⟩);rw[Int.sub_self]at this;exact this
  .exact absurd hA hne
 .rcases b3 with⟨e,-⟩ | ⟨hne,R',qb,rfl,hlt,hs',hn'⟩
  .exact absurd e hA
  .obtain⟨gb,rfl⟩:∃gb,Ab=ω ⟨gb,0,ξ⟩:=by
    rcases qb.1.shape with⟨e,-⟩ | ⟨b,e,-⟩
    .exact absurd e hne
    .exact⟨b,e⟩
   have hgd:1<an R\/1<k:=alt.elim id λ⟨_,p2⟩=>by
    have:=b2.symm.trans p2;injection this with this;injection this with this;injection this with this;injection this with this;cases this
   have hT1:=vk T m R';refine⟨gb,0,rfl,_,_,_,aa b2 rfl,_,aa b1 rfl,_,ae U U,EK qb.1 U U λg h11 q11 lo11 k11=>⟨_,_,_,rfl,aa (k11.bk t2 b1:Bk h11 _ _ _) rfl,aa (k11.bk t2 b1:Bk h11 _ _ _) rfl,?_⟩⟩;exact hK1 g nb R' h11 (q11.mono (λz hz _=>⟨by have:=k09.next;omega,hz.2⟩) λz ho hz=>hz.2 ho) (by have:=k09.next;omega) hn' hs' (k09.trans k11) (.inr ⟨hlt,hgd⟩)
theorem JU (s:Sa jo E h A n K st) (hn:n<=1000) (hT:eJ m T) (sT:Sa aM F h A2 m K2 (T.map dz)) (hm:0<m) (q:RR h G A3 k K3 R) (hk:k<=S) (hs:an R<=S) (hS:S<=1000)
  (hK:∀A' n' K' (R':List (List Int)) h',RR h' (λz=>h.next<=z/\¬ai A' z) A' n' K' R'->n'<=S->an R'<=S->(nW n st cap lim T m R=true->an R<=1->k<=1->n' = k)->Nw h h'->Q (Y A' n' K') h') :
  WC Tryz.prog 32 [.agg #[ψ η d,ψ η cap,ψ η lim,Y A n K],Y A2 m K2,Y A3 k K3] h Q:=by
 have nil:∀h',Nw h h'->(nW n st cap lim T m R=true->an R<=1->k<=1->0=k)->Q (Y ξ 0 0) h':=λh' k' e=>hK ξ 0 0 [] h' ⟨rfl,Nat.le_refl _,.inl ⟨rfl,rfl,rfl⟩,λh=>absurd h (Nat.lt_irrefl _)⟩ (Nat.zero_le _) (Nat.zero_le _) e k';refine uN λh1 e1=>?_;obtain⟨k1,z1,ld⟩:=mw e1;refine⟨_,_,_,_,_,_,(ld h1 (Nw.refl _)).2.2.2.2,zg (s.nw k1) hn hT (sT.nw k1) hm (q.nw k1).sa U U λh2 k2=>⟨_,rfl,λhb=>?_,λhb=>nil h2 (k1.trans k2) λe=>by rw[hb]at e;cases e⟩⟩;have k02:=k1.trans k2;have htn:∀R,((fD T m R).toNat:Int)=fD T m R:=λR=>Int.toNat_of_nonneg (vk T m R).1;refine⟨λw A5 n5 K5 h3=>∃R5,w=(fD T m R5).toNat/\(∃G5,RR h3 G5 A5 n5 K5 R5)/\n5<=S/\an R5<=S/\(an R<=1->k<=1->R5=R/\n5=k)/\Nw h1 h3,_,⟨R,rfl,⟨_,q.nw k02⟩,hk,hs,λ_ _=>⟨rfl,rfl⟩,k2⟩,?_⟩;rintro w A5 n5 K5 h3 ⟨R5,rfl,⟨G5,q5⟩,hn5,hs5,one5,k3⟩;have k03:=k1.trans k3;have z03:=k03.next;refine⟨_,_,_,_,_,_,(ld h3 k3).2.2.2.2,JT (s.nw k03) hn hT (sT.nw k03) hm q5 hn5 hs5 hS (λh4 k4 hr=>⟨_,_,_,_,rfl,λ_=>nil h4 (k03.trans k4) λe p1 p2=>?_,λh=>absurd (Int.le_refl _) h⟩) λg k' R' h4 q4 lo4 hk' hs' k4 alt=>⟨_,_,_,_,rfl,λhx=>?_,λhx=>?_⟩⟩
 .obtain⟨e1,-⟩:=one5 p1 p2;rw[e1,e]at hr;cases hr
 .refine hK (ω ⟨g,0,ξ⟩) k' (cx k') R' h4 (q4.mono (λz hz _=>⟨U,λe=>hz.2 e⟩) λz ho hz=>hz.2 ho) hk' hs' (λ_ p1 p2=>?_) (k03.trans k4);obtain⟨e1,e2⟩:=one5 p1 p2;rcases alt with⟨-,e3⟩ | ⟨hlt,-⟩
  .rw[e3,e2]
  .omega
 .rcases alt with⟨e,-⟩ | ⟨hlt,hg⟩
  .rw[e,Int.sub_self]at hx;exact absurd (Int.le_refl _) hx
  .exact⟨(fD T m R').toNat,by have:=htn R';have:=htn R5;omega,R',rfl,⟨_,q4⟩,hk',hs',λp1 p2=>by
    obtain⟨e1,e2⟩:=one5 p1 p2;rw[e1,e2]at hg;omega,k3.trans k4⟩
end
end Eva
end
section
open Go Go.RowKit
def nX (N:ab) (d cap lim:Int) (s:Int×Int) (e:Option Int):Prop:=∃x y:Nat,iG N d.toNat s.1.toNat x/\iG N s.1.toNat d.toNat y/\e=rh cap lim s.2 x y
theorem nX.one {N:ab}{d cap lim:Int}{s:Int×Int}{e e':Option Int}(h:nX N d cap lim s e) (h':nX N d cap lim s e'):e=e':=by
 obtain⟨x,y,h1,h2,rfl⟩:=h;obtain⟨x',y',h3,h4,rfl⟩:=h';rw[h1.one h3,h2.one h4]
theorem nY {N:ab}{d cap lim:Int}{st:List (Int×Int)}{T:List (List Nat)}(H:vi N (jU d st) (jU d st) T){i:Nat}{s:Int×Int}(hs:st[i]? = ω s):nX N d cap lim s (jT cap lim st T i):=by
 have hl:(jU d st).length=st.length+1:=by unfold jU;simp
 have hi:=(List.getElem?_eq_some_iff.1 hs).1;have p0:(jU d st)[0]? = ω d.toNat:=rfl;have p1:(jU d st)[i+1]? = ω s.1.toNat:=by
  unfold jU;rw[List.getElem?_cons_succ,List.getElem?_map,hs];rfl
 obtain⟨r0,hr0⟩:∃r,T[0]? = ω r:=⟨_,List.getElem?_eq_getElem (by rw[H.len];omega)⟩;obtain⟨r1,hr1⟩:∃r,T[i+1]? = ω r:=⟨_,List.getElem?_eq_getElem (by rw[H.len];omega)⟩;obtain⟨x,hx⟩:∃x,r0[i+1]? = ω x:=⟨_,List.getElem?_eq_getElem (by rw[H.row 0 r0 hr0];omega)⟩;obtain⟨y,hy⟩:∃y,r1[0]? = ω y:=⟨_,List.getElem?_eq_getElem (by rw[H.row (i+1) r1 hr1];omega)⟩;refine⟨x,y,H.get 0 (i+1) _ _ r0 x p0 p1 hr0 hx,H.get (i+1) 0 _ _ r1 y p1 p0 hr1 hy,?_⟩;unfold jT;rw[za hr0 hx,za hr1 hy];have:(st.getD i (0,0)).2=s.2:=by rw[List.getD_eq_getElem?_getD,hs];rfl
 rw[this]
theorem EL {N:ab}{p:List Nat}{n:Nat}{T:List (List Nat)}(H:vi N p p T) (hl:p.length=n):eJ n T:=by
 refine⟨by rw[H.len,hl],λi r hr=>⟨by rw[H.row i r hr,hl],λd hd=>?_⟩⟩;obtain⟨k,hk⟩:=List.getElem?_of_mem hd;have h1:=(List.getElem?_eq_some_iff.1 hr).1;have h2:=(List.getElem?_eq_some_iff.1 hk).1;rw[H.len]at h1;rw[H.row i r hr]at h2;exact(H.get i k _ _ r d (List.getElem?_eq_getElem h1) (List.getElem?_eq_getElem h2) hr hk).le
theorem Cl {na:Nat}{d cap lim:Int}{s:Int×Int}{T:List (List Nat)}(J:gW na d cap lim [s]) (hT:eJ 2 T) (h:jT cap lim [s] T 0=ξ):nW 1 [s] cap lim T 2 [[1]]=true:=by
 have b1:=zb hT 0 1;have b2:=zb hT 1 0;unfold bl at b1 b2;have hs:=(J.st_ s (List.mem_singleton.2 rfl)).2;have e1:dZ [s] 0 [1]=s.2:=by
  show dZ [s] (IntKind.i64.wrap (0+s.2)) []=s.2;rw[Int.zero_add,IntWalk.i64_in s.2 ⟨U,U⟩];rfl
 have e2:xv T 2 [1]=iU (tab T 0 1) (tab T 1 0):=by
  show iU (iU 0 (tab T 0 1)) (tab T 1 0)=_;have:iU 0 (tab T 0 1:Nat)=((tab T 0 1:Nat):Int):=by
   rw[jm,dP (a:=0) U U,dP U U];omega
  rw[this]
 unfold jT rh at h;have hg:oQ [s] cap lim T 2 [1]=true:=by
  unfold oQ;rw[e1,e2];have hx:(List.getD [s] 0 (0,0)).2=s.2:=rfl;rw[hx]at h
  split at h
  .cases h
  .split at h
   .cases h
   .split at h
    .cases h
    .split at h
     .cases h
     .split at h
      .cases h
      .rename_i q1 q2 q3 q4 q5;rw[decide_eq_true U,decide_eq_true (Int.not_le.1 q4),decide_eq_true (Int.not_lt.1 q5)];rfl
 show(if([1]:List Int) = [] then false else match gu 1 [false,false] 0 [1] with
  | none=>false
  | some (th',c')=>if oQ [s] cap lim T 2 [1] then jN 1 [s] cap lim T 2 th' c' [] else false)=true
 rw[if_neg (by simp)];have hm:gu 1 [false,false] 0 [1]=ω ([false,true],1):=by
  show(if(1:Int)<1\/((1+1:Nat):Int)<=1\/([false,false]:List Bool)[(1:Int).toNat]? = ω true then ξ else gu 1 (([false,false]:List Bool).set (1:Int).toNat true) (0+1) [])=_;rw[if_neg (by rintro(h | h | h) <;>simp at h)];rfl
 rw[hm];simp only;rw[hg,if_pos rfl];rfl
namespace Eva
theorem JV (m:Nat) (A:Option Addr) (n K:Nat):lJ (m+1) (Y A n K):=by
 cases A with
 | none=>trivial
 | some a=>rfl
section
variable {h h' h0:AH}{Q:Value->AH->Prop}{Fa F Fo E:Nat->Prop}{N:ab}{p:List (List Int)}{g o C n K:Nat}{A:Option Addr}{costs:List Int}{d cap lim:Int}{st:List (Int×Int)}
theorem JW (A:Option Addr) (n K:Nat):bO (.agg #[ψ η d,ψ η cap,ψ η lim,Y A n K]):=by
 intro v hv;have hv':v = ψ η d\/v = ψ η cap\/v = ψ η lim\/v = Y A n K:=by simpa using hv
 rcases hv' with rfl | rfl | rfl | rfl
 .trivial
 .trivial
 .trivial
 .exact JV 4 A n K
theorem Cm (G:gS h Fa F g N) (O:fE h Fo o N p) (bc:Bk h C (costs.map (Value.int .i64)) 2) (hC:C<h.next) (hco:cZ N p costs) (hsz:N.size p<1000000) (J:gW N.na d cap lim st) (s:Sa jo E h A n K st)
  (hK0:∀A' n' K' x h',(∀s∈st,nX N d cap lim s ξ)->(n=1->n' = 1)->Nw h h'->Q (.tuple #[.agg #[Y A' n' K',ψ η x],.nilIface]) h')
  (hK1:∀i s e v x h',st[i]? = ω s->(∀j s',j<i->st[j]? = ω s'->nX N d cap lim s' ξ)->nX N d cap lim s (ω e)->iH h' h.next v ⟨#[115,116,111,112]⟩ ((i+1:Nat):Int) e->Nw h h'->Q (.tuple #[.agg #[Y ξ 0 0,ψ η x],v]) h') :
  WC Tryz.prog 10 [ν (ω ⟨g,0,ξ⟩),ν (ω ⟨o,0,ξ⟩),Y (ω ⟨C,0,ξ⟩) (N.size p) (cx (N.size p)),.agg #[ψ η d,ψ η cap,ψ η lim,Y A n K]] h Q:=by
 have hsl:=s.len;have hn:n<=10:=by rw[<-hsl];exact J.few
 have hpl:(jU d st).length=n+1:=by unfold jU;simp[hsl]
 refine wC λh1 e1 h2 e2=>?_;obtain⟨k1,z1,ld⟩:=mw e1;obtain⟨k2,g2,z2⟩:=aj e2;have k02:=k1.trans k2;refine⟨_,_,_,_,_,_,(ld h2 k2).2.2.2.2,tm (G.nw k02) ⟨_,rfl,(ld h2 k2).2.2.2.2,JW _ _ _,Cg J (s.nw k02) λh4 k4=>⟨ξ,rfl,λ_=>⟨_,_,_,_,_,_,(ld h4 (k2.trans k4)).2.2.2.2,Gp J (s.nw (k02.trans k4)) λpb h5 b5 lo5 l5 k5=>⟨_,_,_,rfl,?_⟩⟩,λt u h=>by cases h⟩⟩⟩;have k05:=(k02.trans k4).trans k5;have z05:=k05.next;have sp:Sa cI (λb=>b<h5.next) h5 (ω ⟨pb,0,ξ⟩) (jU d st).length (cx (n+1)) (ints (jU d st)):=Sa.of_ints b5 (by unfold ints;rw[List.length_map]) l5 l5;rw[<-hpl]at sp⊢;refine Ih (G.nw k05) (O.nw k05) (k05.bk hC bc) U hco hsz sp sp (AE J) (AE J) U U λT TB h6 s6 H6 k6=>⟨_,_,_,ξ,rfl,λ_=>?_,λt u h=>by cases h⟩;rw[hpl]at s6⊢;have k06:=k05.trans k6;have hT:=EL H6 hpl;have k16:=((k2.trans k4).trans k5).trans k6;have rest:=fun {h'}(k:Nw h1 h')=>(ld h' k).2.2.2.2;refine⟨_,_,_,_,_,_,rest k16,Hf J (s.nw k06) hT s6 (λh7 hfit k7=>⟨ξ,rfl,λ_=>?_,λt u h=>by cases h⟩) λi e v h7 hi hbef hfi f7 nv k7=>?_⟩
 .have k17:=k16.trans k7;have k07:=k06.trans k7;refine⟨_,_,_,_,_,_,rest k17,JQ J (s.nw k07) hT (s6.nw k7) hfit λA9 n9 K9 R h8 q8 lo8 sum8 hn9 one8 k8=>⟨_,_,_,ξ,rfl,λ_=>?_,λt u h=>by cases h⟩⟩;have k18:=k17.trans k8;have k08:=k07.trans k8;refine⟨_,_,_,_,_,_,rest k18,JU (S:=10) (s.nw k08) U hT (s6.nw (k7.trans k8)) U q8 U U U λA11 n11 K11 R' h9 q9 hn11 hs9 one9 k9=>⟨_,_,_,rfl,?_⟩⟩;have hr:∀r∈R',r.length<=1000:=λr hr=>by
   obtain⟨i,hi⟩:=List.getElem?_of_mem hr;have:=bC hi;omega
  refine zf hT ((s6.nw (k7.trans k8)).nw k9) U q9.sa U hr ⟨_,rfl,?_⟩;have k19:=k18.trans k9;obtain⟨h11,s11,b11,z11,o11⟩:=dh (vs:=[Y A11 n11 K11,ψ η (fD T (n+1) R')]) ((((((k4.trans k5).trans k6).trans k7).trans k8).trans k9).bk U g2) rfl (cR rfl rfl);have z1':=k1.next;have z19:=k19.next;refine⟨h11,s11,_,_,_,_,by rw[bo b11 (by simp)];rfl,hK0 _ _ _ _ h11 (λs' hs'=>?_) (λe=>?_) ⟨U,λb hb=>(o11 b U).trans ((k08.trans k9).get b hb)⟩⟩
  .obtain⟨i,hi⟩:=List.getElem?_of_mem hs';have:=nY (cap:=cap) (lim:=lim) H6 hi;rw[hfit i (by have:=(List.getElem?_eq_some_iff.1 hi).1;omega)]at this;exact this
  .subst e;obtain⟨s',hs'⟩:∃s',st = [s']:=by
    match st,hsl with
    | [s'],_=>exact⟨s',rfl⟩
   subst hs';have hR:=one8 rfl;subst hR;have h9:=q8.len;have hr1:=Cl J hT (hfit 0 U);have:=one9 hr1 (by decide) (by simp at h9;omega);simp at h9;omega
 .obtain⟨b,hv,hb1,hb2,hb3⟩:=f7;subst hv;refine⟨ω (_,_),rfl,ω (_,_),rfl,(λh=>by cases h),λt u h=>?_⟩;obtain⟨rfl,rfl⟩:=Prod.mk.inj (Option.some.inj h);have k17:=k16.trans k7;obtain⟨h13,s13,b13,z13,o13⟩:=dh (vs:=[Y ξ 0 0,ψ η 0]) (((((k4.trans k5).trans k6).trans k7)).bk U g2) rfl (cR rfl rfl);have z1':=k1.next;have z17:=k17.next;have z7:=k7.next;have z26:=((k4.trans k5).trans k6).next;obtain⟨si,hsi⟩:∃s,st[i]? = ω s:=⟨_,List.getElem?_eq_getElem U⟩;have hfit:=nY (cap:=cap) (lim:=lim) H6 hsi;rw[hfi]at hfit;refine⟨h13,s13,_,_,_,_,by rw[bo b13 (by simp)];rfl,hK1 i si e _ _ h13 hsi (λj s' hj hs'=>?_) hfit ⟨b,rfl,(o13 b U).trans hb1,U,U⟩ ⟨U,λb hb=>(o13 b U).trans ((k06.trans k7).get b hb)⟩⟩;have:=nY (cap:=cap) (lim:=lim) H6 hs';rw[hbef j hj]at this;exact this
end
end Eva
end
section
open Go Go.RowKit
def mC:ByteArray:=⟨#[115,116,111,112]⟩
namespace Eva
section
variable {h h':AH}{F:Nat->Prop}{Q:Value->AH->Prop}
theorem Gt {l:List Value}:orc 34 l h=IR h l:=by kernel_rfl
theorem vm {l:List Value}:orc 35 l h=Ho h l:=by kernel_rfl
theorem Mp {b:Nat}{e k:Int}{u v:Value}{t:TypeId}(hb:Bk h b [u,v,.iface 100 (ψ η e)] t) (hK:Q (.bool (decide (e=k))) h):WC Tryz.prog 34 [.iface 101 (ν (ω ⟨b,0,ξ⟩)),.iface 100 (ψ η k)] h Q:=
 WC.orc (by rw[Gt];unfold IR;simp only[hb]) hK
theorem Ll {b t:Nat}{u:Value}{ty:TypeId}(hb:Bk h t [u] ty) (hK:Q (.bool true) (h.put t (.cells [ν (ω ⟨b,0,ξ⟩)] ty false))):WC Tryz.prog 35 [.iface 101 (ν (ω ⟨b,0,ξ⟩)),.iface 103 (ν (ω ⟨t,0,ξ⟩))] h Q:=
 WC.orc (by rw[vm];unfold Ho;simp only[hb]) hK
theorem Lm {t:Nat}{x:Int}{u:Value}{ty:TypeId}(hb:Bk h t [u] ty) (hK:Q (.bool false) h):WC Tryz.prog 35 [.iface 100 (ψ η x),.iface 103 (ν (ω ⟨t,0,ξ⟩))] h Q:=
 WC.orc (by rw[vm];unfold Ho;simp only[hb]) hK
theorem Ln {t:Nat}{x:Int}{u:Value}{ty:TypeId}(hb:Bk h t [u] ty) (hK:Q (.bool true) (h.put t (.cells [ψ η x] ty false))):WC Tryz.prog 35 [.iface 100 (ψ η x),.iface 108 (ν (ω ⟨t,0,ξ⟩))] h Q:=
 WC.orc (by rw[vm];unfold Ho;simp only[hb]) hK
theorem EM {e1:Option (Nat×Value)}{A:Option Addr}{K lo:Nat}{a a' e e':Int}(hf:e1=ξ\/iH h lo (ac e1) mC a e) (hz:Sz Rc.at_ F h A 1 K [(mC,a')]) (he:e'≠0)
  (hK:∀(b:Bool) h',(b=true↔e1≠ξ/\a=a'/\e=e')->Nw h h'->Q (.bool b) h'):WC Tryz.prog 11 [ac e1,.agg #[Y A 1 K,ψ η e']] h Q:=by
 refine uP λh1 g1=>?_;obtain⟨k1,b1,z1⟩:=aj g1;refine⟨e',aa b1 rfl,λh0=>absurd h0 he,λ_=>⟨λhn=>hK false h1 ⟨λh=>Bool.noConfusion h,λh=>absurd hn h.1⟩ k1,λt2 u2 he1=>?_⟩⟩;subst he1;rcases hf with hf | ⟨b,hv,bb,hb,-⟩
 .cases hf
 obtain⟨q1,q2⟩:=Value.iface.inj hv;subst q1 q2;obtain⟨pb,po,x,cs,rfl,-,hpb,hx,hc,hcs⟩:=hz.get (k:=0) U;obtain rfl:(mC,a')=x:=by simpa using hx
 have hcs:cs = [.string mC,ψ η a']:=hcs;subst hcs;have p0:ldC h pb po=ω (.string mC):=by simpa using hc 0 _ rfl
 have p1:ldC h pb (po+1)=ω (ψ η a'):=by simpa[Rc.at_]using hc 1 _ rfl
 refine⟨e',aa b1 rfl,Mp (k1.bk hb bb) ⟨_,rfl,λht=>?_,λhfa=>hK false h1 ⟨λh=>Bool.noConfusion h,λh=>absurd h.2.2 (of_decide_eq_false hfa)⟩ k1⟩⟩;obtain rfl:e=e':=of_decide_eq_true ht;refine⟨λm ei x h3=>Nw h1 h3/\((m=1/\ei=ω (101,ν (ω ⟨b,0,ξ⟩))/\x=0)\/(m=0/\ei=ω (100,ψ η e)/\x=1/\a=a')),1,⟨Nw.refl _,.inl ⟨rfl,rfl,rfl⟩⟩,?_⟩;rintro m ei x h3 ⟨k3,hcase⟩;have b3:=k3.bk U b1;have k03:=k1.trans k3;rcases hcase with⟨rfl,rfl,rfl⟩ | ⟨rfl,rfl,rfl,ha⟩
 .refine⟨_,_,_,aa b3 rfl,λ_=>?_,λhge=>absurd (show(0:Int)<((1:Nat):Int) by omega) hge⟩;intro h4 g4;obtain⟨k4,b4,z4⟩:=aj g4;refine Ll b4 ⟨_,rfl,λ_=>?_,λh=>Bool.noConfusion h⟩;obtain⟨h5,e5⟩:∃h5,h4.put h3.next (.cells [ν (ω ⟨b,0,ξ⟩)] 101 false)=h5:=⟨_,rfl⟩;have k5:Nw h3 h5:=by rw[<-e5];exact k4.put (Nat.le_refl _) _
  have b5:Bk h5 h3.next [ν (ω ⟨b,0,ξ⟩)] 101:=by rw[<-e5,Bk,get_put,if_pos rfl]
  rw[e5];have k35:=k3.trans k5;have k05:=k03.trans k5;have c5:=k35.bk U b1;have f5:=k05.bk hb bb;refine⟨_,aa b5 rfl,(λh=>by cases h),λ_=>⟨b,0,rfl,_,aa b5 rfl,b,0,rfl,mC,aa f5 rfl,_,_,_,aa c5 rfl,0,rfl,pb,po,rfl,U,mC,(k05.ldC hpb _).trans (by simpa using p0),λ_=>⟨_,aa b5 rfl,b,0,rfl,a,aa f5 rfl,_,_,_,aa c5 rfl,pb,po,rfl,U,a',(k05.ldC hpb _).trans (by simpa using p1),λha=>⟨_,aa b5 rfl,b,0,rfl,ω (100,ψ η e),aa f5 rfl,_,ae U U,0,U,k35,.inr ⟨rfl,rfl,rfl,ha⟩⟩,λhne=>hK false h5 ⟨λh=>Bool.noConfusion h,λh=>absurd h.2.1 hne⟩ k05⟩,λh=>absurd rfl h⟩⟩
 .refine⟨_,_,_,aa b3 rfl,λhlt=>absurd hlt (show ¬(1:Int)<((1:Nat):Int) by omega),λ_=>?_⟩;intro h6 g6 h7 g7;obtain⟨k6,b6,z6⟩:=aj g6;obtain⟨k7,b7,z7⟩:=aj g7;have b6':=k7.bk U b6;refine⟨λh=>(by cases h),λt3 u3 h=>?_⟩;obtain⟨rfl,rfl⟩:=Prod.mk.inj (Option.some.inj h);refine Lm b6' ⟨_,rfl,λh=>Bool.noConfusion h,λ_=>Ln b7 ⟨_,rfl,λ_=>?_,λh=>Bool.noConfusion h⟩⟩;obtain⟨h9,e9⟩:∃h9,h7.put h6.next (.cells [ψ η e] 100 false)=h9:=⟨_,rfl⟩;have k9:Nw h6 h9:=by rw[<-e9];exact k7.put (Nat.le_refl _) _
  have b9:Bk h9 h6.next [ψ η e] 100:=by rw[<-e9,Bk,get_put,if_pos rfl]
  rw[e9];have c9:=((k3.trans k6).trans k9).bk U b1;exact⟨_,aa b9 rfl,_,aa c9 rfl,λ_=>hK true h9 ⟨λ_=>⟨λh=>(by cases h),ha,rfl⟩,λ_=>rfl⟩ ((k03.trans k6).trans k9),λh=>absurd rfl h⟩
end
end Eva
end
end Go.Proofs.YtaagdjkinbemcaaGreatDoor
