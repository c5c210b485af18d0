/-
Lemmas for TopAlone. No condition.
-/
import Derived.Test.YtaagdjkinbemcaaGreatDoorPj
import Derived.Test.YtaagdjkinbemcaaGreatDoorPe
import Derived.Test.YtaagdjkinbemcaaGreatDoorW7
import Derived.Test.YtaagdjkinbemcaaGreatDoorPi
import Derived.Test.YtaagdjkinbemcaaGreatDoorPf
namespace Go.Proofs.YtaagdjkinbemcaaGreatDoor
open _root_.Go.IntKind renaming i64->ψ
open _root_.Go.Value renaming int->ξ,pointer->ν,slice->Y
open _root_.Option renaming none->η,some->ω
set_option linter.unusedVariables false
set_option linter.unusedSimpArgs false
set_option linter.unusedSectionVars false
set_option linter.unnecessarySimpa false
section
open Go Go.RowKit
namespace Eva
theorem iO {i:Nat}(h:i<=1000000):IntKind.i64.wrap ((i:Int)+1)=((i+1:Nat):Int):=by rw[Int.natCast_succ];exact ae U U
section
variable {h h':AH}{F Fa Fv Ft:Nat->Prop}{Q:Value->AH->Prop}{A Av Aa At:Option Addr}{n K nv Kv na Ka nt Kt:Nat}{xs:List Int}{vs xa:List fJ}{ts:List wH}
theorem jq {c:Int}(hc:aU c=true) (hK:Q (.bool true) h):WC Tryz.prog 201 [ξ ψ c] h Q:=by
 unfold aU at hc;have hc':=of_decide_eq_true hc;exact j7 ⟨λ_=>hK,λh1=>⟨λh2=>⟨λ_=>hK,λh3=>absurd hc' U⟩,λh2=>absurd hc' U⟩⟩
theorem Jm {x:Int}(hx:ir x=true) (hK:Q (.bool false) h):WC Tryz.prog 257 [ξ ψ x] h Q:=by
 unfold ir at hx;have hx':=of_decide_eq_true hx;exact BA ⟨λh=>absurd h U,λ_=>⟨λh=>absurd h U,λ_=>hK⟩⟩
theorem qS {a b:Int}(hs:Sz cI F h A n K xs) (ht:dM a b xs) (hK:∀h',Nw h h'->Q .nilIface h'):WC Tryz.prog 256 [.agg #[ξ ψ a,ξ ψ b,Y A n K]] h Q:=by
 obtain⟨⟨a0,a1⟩,⟨b0,b1⟩,hl,hc⟩:=ht;have hm:0<=a*b/\a*b<=16*16:=⟨Int.mul_nonneg a0 b0,Int.mul_le_mul a1 b1 b0 U⟩;have hln:=hs.len;refine uE λh1 e1=>?_;obtain⟨k1,g1,z1⟩:=aj e1;have hs1:=hs.nw k1;refine⟨a,aa g1 rfl,b,aa g1 rfl,lQ ⟨λh=>absurd h U,λ_=>⟨λh=>absurd h U,λ_=>⟨λh=>absurd h U,λ_=>⟨λh=>absurd h U,λ_=>⟨η,rfl,λ_=>⟨A,n,K,aa g1 rfl,a,aa g1 rfl,b,aa g1 rfl,_,ae U U,λ_=>⟨A,n,K,aa g1 rfl,?_⟩,λh=>absurd U h⟩,λt u h=>by cases h⟩⟩⟩⟩⟩⟩;refine⟨λm x h2=>∃i:Nat,x=i/\i<=n/\m=n - i/\h2=h1,n,⟨0,rfl,Nat.zero_le _,rfl,rfl⟩,?_⟩;rintro m x h2 ⟨i,rfl,hi,hmi,rfl⟩;refine⟨λhlt=>?_,λhge=>hK _ k1⟩;obtain⟨b',o,y,hA,-,-,hy,e0⟩:=hs1.int (k:=i) U;exact⟨i,rfl,b',o,hA,U,_,e0,jq (hc y (List.mem_of_getElem? hy)) ⟨_,rfl,λ_=>⟨_,iO U,n - (i+1),U,i+1,rfl,U,rfl,rfl⟩,λh=>Bool.noConfusion h⟩⟩
end
end Eva
end
section
open Go Go.RowKit
namespace Eva
abbrev eH:Rc wH:=Rc.table
theorem bi {h:AH}{b o:Nat}{u v w:Value}(h0:ldC h b o=ω u) (h1:ldC h b (o+1)=ω v) (h2:ldC h b (o+2)=ω w):aB h b o 3=ω [u,v,w]:=
 nR rfl U λj x hj=>by
  match j,hj with
  | 0,hj=>obtain rfl:=Option.some.inj hj;exact h0
  | 1,hj=>obtain rfl:=Option.some.inj hj;exact h1
  | 2,hj=>obtain rfl:=Option.some.inj hj;exact h2
section
variable {h h':AH}{Fa Fv Ft:Nat->Prop}{Q:Value->AH->Prop}{Av Aa At:Option Addr}{nv Kv na Ka nt Kt:Nat}{vs xa:List fJ}{ts:List wH}
theorem Jn (sv:Sa aS Fv h Av nv Kv vs) (sa:Sa aS Fa h Aa na Ka xa) (st:Sa eH Ft h At nt Kt ts) (ok:sS vs xa ts) (hK:∀h',Nw h h'->Q .nilIface h') :
  WC Tryz.prog 259 [.agg #[Y Av nv Kv,Y Aa na Ka,Y At nt Kt]] h Q:=by
 have lv:=sv.len;have la:=sa.len;have lt:=st.len;have hnv:=ok.nv;have hna:=ok.na;refine yB λh1 e1=>?_;obtain⟨k1,g1,z1⟩:=aj e1;refine⟨_,_,_,aa g1 rfl,U,λh2 e2=>?_⟩;obtain⟨k2,g2,z2⟩:=aj e2;refine⟨_,_,_,aa (k2.bk U g1) rfl,U,λh3 e3=>?_⟩;obtain⟨k3,g3,z3⟩:=aj e3;rw[aQ]at g2 g3;have k13:=(k1.trans k2).trans k3;refine⟨_,_,_,aa ((k2.trans k3).bk U g1) rfl,λm x h4=>∃i:Nat,x=i/\i<=na/\m=na - i/\Bk h4 h1.next ((nK dS xa nv i).map (Value.int .i64)) 3/\Bk h4 h2.next ((nK iT xa nv i).map (Value.int .i64)) 3/\Mt (λz=>z=h1.next\/z=h2.next) h3 h4,na,⟨0,rfl,Nat.zero_le _,rfl,?_,?_,Mt.refl _ _⟩,?_⟩
 .rw[jD,List.map_replicate];exact k3.bk U g2
 .rw[jD,List.map_replicate];exact g3
 rintro m x h4 ⟨i,rfl,hi,hm,b4,c4,m4⟩;have z4:=m4.next;have k14:Nw h h4:=m4.is_nw k13 λz hz=>U;have g14:Bk h4 h.next [Y Av nv Kv,Y Aa na Ka,Y At nt Kt] 166:=m4.bk U U ((k2.trans k3).bk U g1);refine⟨λhlt=>?_,λhge=>?_⟩
 .obtain⟨b,o,x,y,z,hA,-,-,hx,e0,e1',e2'⟩:=(sa.nw k14).tri (k:=i) U;obtain⟨⟨a0,a1⟩,⟨a2,a3⟩,-⟩:=ok.arcs_ _ (List.mem_of_getElem? hx);simp only at a0 a1 a2 a3;obtain⟨u,rfl⟩:=Int.eq_ofNat_of_zero_le a0;obtain⟨v,rfl⟩:=Int.eq_ofNat_of_zero_le a2;have hu:u<nv:=U;have hv:v<nv:=U;have c1:=uR dS xa i v;have c2:=uR iT xa i u;refine⟨i,rfl,b,o,hA,U,_,_,_,bi e0 e1' e2',λh5 e5=>?_⟩;obtain⟨h6,s6,k6,g6,z6⟩:=aD (vs:=[ξ ψ (u:Int),ξ ψ (v:Int),ξ ψ z]) e5 rfl (by simp[flat]);have b6:=k6.bk U b4;obtain⟨h7,s7,b7,z7,o7⟩:=ax (v:=ξ ψ (((xa.take i).countP (λa=>dS a == (v:Int)):Int)+1)) b6 (o:=0+v) (by simp[lW];omega) rfl;have c7:=(o7 _ U).trans (k6.bk U c4);have g7:=(o7 _ U).trans g6;obtain⟨h8,s8,b8,z8,o8⟩:=ax (v:=ξ ψ (((xa.take i).countP (λa=>iT a == (u:Int)):Int)+1)) c7 (o:=0+u) (by simp[lW];omega) rfl;refine⟨h6,s6,_,aa g6 rfl,v,rfl,hv,(((xa.take i).countP (λa=>dS a == (v:Int)):Nat):Int),?_,_,ae U U,hv,h7,s7,_,aa g7 rfl,u,rfl,hu,(((xa.take i).countP (λa=>iT a == (u:Int)):Nat):Int),?_,_,ae U U,hu,h8,s8,_,iO U,na - (i+1),U,i+1,rfl,U,rfl,?_,?_,?_⟩
  .rw[aJ b6,Nat.zero_add,List.getElem?_map,eA hv];rfl
  .rw[aJ c7,Nat.zero_add,List.getElem?_map,eA hu];rfl
  .rw[jE (f:=dS) hx rfl hv,List.map_set];rw[Nat.zero_add]at b7;exact(o8 _ U).trans b7
  .rw[jE (f:=iT) hx rfl hu,List.map_set];rw[Nat.zero_add]at b8;exact b8
  .exact⟨U,λz hz hn=>(o8 z (λe=>hn (.inr e))).trans ((o7 z (λe=>hn (.inl e))).trans ((k6.get z U).trans (m4.get z hz hn)))⟩
 .obtain rfl:i=na:=U;refine⟨_,_,_,aa g14 rfl,λm x h9=>∃j:Nat,x=j/\j<=nv/\m=nv - j/\Nw h4 h9,nv,⟨0,rfl,Nat.zero_le _,rfl,Nw.refl _⟩,?_⟩;rintro m' x h9 ⟨j,rfl,hj,hm',k9⟩;refine⟨λhlt=>?_,λhge'=>hK h9 (k14.trans k9)⟩;have kk:=k14.trans k9;obtain⟨b,o,x,y,z,hA,-,-,hx,e0,e1',e2'⟩:=(sv.nw kk).tri (k:=j) U;obtain⟨-,-,q0,q1⟩:=ok.verts_ _ (List.mem_of_getElem? hx);simp only at q0 q1;obtain⟨ty,rfl⟩:=Int.eq_ofNat_of_zero_le q0;refine⟨j,rfl,b,o,hA,U,_,_,_,bi e0 e1' e2',λh10 e10=>?_⟩;obtain⟨h11,s11,k11,g11,z11⟩:=aD (vs:=[ξ ψ x,ξ ψ y,ξ ψ (ty:Int)]) e10 rfl (by simp[flat]);obtain⟨b',o',p,q,A',n',K',zs,hA',-,-,ht,f0,f1,f2,-⟩:=(st.nw (kk.trans k11)).table (k:=ty) U;obtain⟨d1,d2,d3,d4⟩:=ok.deg j _ _ hx ht;simp only at d3 d4;refine⟨h11,s11,_,_,_,aa ((k9.trans k11).bk U g14) rfl,_,aa g11 rfl,ty,rfl,b',o',hA',U,_,_,_,_,_,bi f0 f1 f2,λh12 e12=>?_⟩;obtain⟨h13,s13,k13',g13,z13⟩:=aD (vs:=[ξ ψ p,ξ ψ q,Y A' n' K']) e12 rfl (by simp[flat]);have z9:=k9.next;have kb:=(k9.trans k11).trans k13';have hin:xa.take i=xa:=List.take_of_length_le U;have r1:ldC h13 h1.next (0+j)=ω (ξ ψ ((xa.countP (λa=>dS a == (j:Int)):Nat):Int)):=by
   rw[aJ (kb.bk U b4),Nat.zero_add,List.getElem?_map,eA U,hin];rfl
  have r2:ldC h13 h2.next (0+j)=ω (ξ ψ ((xa.countP (λa=>iT a == (j:Int)):Nat):Int)):=by
   rw[aJ (kb.bk U c4),Nat.zero_add,List.getElem?_map,eA U,hin];rfl
  exact⟨h13,s13,U,_,r1,λh=>absurd h U,λ_=>⟨U,_,r2,λh=>absurd h U,λ_=>⟨p,aa g13 rfl,U,_,r1,λ_=>⟨q,aa g13 rfl,U,_,r2,λ_=>⟨_,iO U,nv - (j+1),U,j+1,rfl,U,rfl,kb⟩,λh=>absurd d4 h⟩,λh=>absurd d3 h⟩⟩⟩
theorem Ah {x:Int}(hx:0<=x/\x<nv) (hK:∀h',Nw h h'->Q (.bool true) h'):WC Tryz.prog 258 [.agg #[Y Av nv Kv,Y Aa na Ka,Y At nt Kt],ξ ψ x] h Q:=by
 refine uG λh1 e1=>?_;obtain⟨k1,g1,z1⟩:=aj e1;exact⟨λ_=>⟨_,_,_,aa g1 rfl,λ_=>hK _ k1,λh=>absurd hx.2 h⟩,λh=>absurd hx.1 h⟩
theorem BW (sv:Sa aS Fv h Av nv Kv vs) (sa:Sa aS Fa h Aa na Ka xa) (st:Sa eH Ft h At nt Kt ts) (ok:sS vs xa ts) (hK:∀h',Nw h h'->Q .nilIface h') :
  WC Tryz.prog 193 [.agg #[Y Av nv Kv,Y Aa na Ka,Y At nt Kt]] h Q:=by
 have lv:=sv.len;have la:=sa.len;have lt:=st.len;have hnv:=ok.nv;have hna:=ok.na;have hnt:=ok.nt;refine wz λh1 e1=>?_;obtain⟨k1,g1,z1⟩:=aj e1;have bx:∀{h'},Nw h1 h'->Bk h' h.next [Y Av nv Kv,Y Aa na Ka,Y At nt Kt] 166:=λa=>a.bk U g1;have bN:∀{h'},Nw h1 h'->aB h' h.next 0 3=ω [Y Av nv Kv,Y Aa na Ka,Y At nt Kt]:=λa=>bi (aa (bx a) rfl) (aa (bx a) rfl) (aa (bx a) rfl);refine⟨_,_,_,aa g1 rfl,λh=>absurd h U,λ_=>⟨_,_,_,aa g1 rfl,λh=>absurd h U,λ_=>⟨_,_,_,aa g1 rfl,λh=>absurd h U,λ_=>⟨_,_,_,aa g1 rfl,λm x h5=>∃i:Nat,x=i/\i<=nt/\m=nt - i/\Nw h1 h5,nt,⟨0,rfl,Nat.zero_le _,rfl,Nw.refl _⟩,?_⟩⟩⟩⟩;rintro m x h5 ⟨i,rfl,hi,hm,k5⟩;refine⟨λhlt=>?_,λhge=>?_⟩
 .obtain⟨b',o',p,q,A',n',K',zs,hA',-,-,ht,f0,f1,f2,sz⟩:=(st.nw (k1.trans k5)).table (k:=i) U;refine⟨i,rfl,b',o',hA',U,_,_,_,_,_,bi f0 f1 f2,λh6 e6=>?_⟩;obtain⟨h7,s7,k7,g7,z7⟩:=aD (vs:=[ξ ψ p,ξ ψ q,Y A' n' K']) e6 rfl (by simp[flat]);exact⟨h7,s7,_,_,_,_,_,bi (aa g7 rfl) (aa g7 rfl) (aa g7 rfl),qS (sz.nw k7).z (ok.types_ _ (List.mem_of_getElem? ht)) λh8 k8=>⟨η,rfl,λ_=>⟨_,iO U,nt - (i+1),U,i+1,rfl,U,rfl,(k5.trans k7).trans k8⟩,λt u h=>by cases h⟩⟩
 .refine⟨_,_,_,aa (bx k5) rfl,λm x h10=>∃j:Nat,x=j/\j<=nv/\m=nv - j/\Nw h1 h10,nv,⟨0,rfl,Nat.zero_le _,rfl,k5⟩,?_⟩;rintro m' x h10 ⟨j,rfl,hj,hm',k10⟩;refine⟨λhlt=>?_,λhge'=>?_⟩
  .obtain⟨b,o,x,y,z,hA,-,-,hx,e0,e1',e2'⟩:=(sv.nw (k1.trans k10)).tri (k:=j) U;obtain⟨q2,q3,q0,q1⟩:=ok.verts_ _ (List.mem_of_getElem? hx);simp only at q0 q1 q2 q3;refine⟨j,rfl,b,o,hA,U,_,_,_,bi e0 e1' e2',λh11 e11=>?_⟩;obtain⟨h12,s12,k12,g12,z12⟩:=aD (vs:=[ξ ψ x,ξ ψ y,ξ ψ z]) e11 rfl (by simp[flat]);exact⟨h12,s12,x,aa g12 rfl,Jm q2 ⟨_,rfl,λh=>Bool.noConfusion h,λ_=>⟨y,aa g12 rfl,Jm q3 ⟨_,rfl,λh=>Bool.noConfusion h,λ_=>⟨z,aa g12 rfl,λh=>absurd h U,λ_=>⟨z,aa g12 rfl,_,_,_,aa (bx (k10.trans k12)) rfl,λh=>absurd h U,λ_=>⟨_,iO U,nv - (j+1),U,j+1,rfl,U,rfl,k10.trans k12⟩⟩⟩⟩⟩⟩⟩
  .refine⟨_,_,_,aa (bx k10) rfl,λm x h19=>∃j:Nat,x=j/\j<=na/\m=na - j/\Nw h1 h19,na,⟨0,rfl,Nat.zero_le _,rfl,k10⟩,?_⟩;rintro m3 x h19 ⟨l,rfl,hl,hm3,k19⟩;refine⟨λhlt=>?_,λhge3=>?_⟩
   .obtain⟨b,o,x,y,z,hA,-,-,hx,e0,e1',e2'⟩:=(sa.nw (k1.trans k19)).tri (k:=l) U;obtain⟨a01,a23,aw⟩:=ok.arcs_ _ (List.mem_of_getElem? hx);simp only at a01 a23 aw;refine⟨l,rfl,b,o,hA,U,_,_,_,bi e0 e1' e2',λh20 e20=>?_⟩;obtain⟨h21,s21,k21,g21,z21⟩:=aD (vs:=[ξ ψ x,ξ ψ y,ξ ψ z]) e20 rfl (by simp[flat]);exact⟨h21,s21,_,_,_,_,_,_,_,_,_,bN (k19.trans k21),x,aa g21 rfl,Ah U λh22 k22=>⟨_,rfl,λ_=>⟨_,_,_,_,_,_,_,_,_,bN ((k19.trans k21).trans k22),y,aa (k22.bk U g21) rfl,Ah U λh23 k23=>⟨_,rfl,λ_=>⟨z,aa ((k22.trans k23).bk U g21) rfl,jq aw ⟨_,rfl,λ_=>⟨_,iO U,na - (l+1),U,l+1,rfl,U,rfl,((k19.trans k21).trans k22).trans k23⟩,λh=>Bool.noConfusion h⟩⟩,λh=>Bool.noConfusion h⟩⟩,λh=>Bool.noConfusion h⟩⟩
   .have kk:=k1.trans k19;exact⟨_,_,_,_,_,_,_,_,_,bN k19,Jn (sv.nw kk) (sa.nw kk) (st.nw kk) ok λh28 k28=>⟨η,rfl,hK _ (kk.trans k28)⟩⟩
end
end Eva
end
section
open Go Go.RowKit
namespace Eva
section
variable {h h':AH}{Fa Fv Ft:Nat->Prop}{Q:Value->AH->Prop}{Av Aa At:Option Addr}{nv Kv na Ka nt Kt:Nat}{vs xa:List fJ}{ts:List wH}
theorem Eb {k:Nat}{p q:Int}{A:Option Addr}{n K:Nat}{f:Nat->List Value}(hf:∀k,(f k).length=3):∀j,(upd f k [ξ ψ p,ξ ψ q,Y A n K] j).length=3:=λj=>by
 unfold upd
 split
 .rfl
 .exact hf j
theorem Aj (sv:Sa aS Fv h Av nv Kv vs) (sa:Sa aS Fa h Aa na Ka xa) (st:Sa eH Ft h At nt Kt ts) (ok:sS vs xa ts)
  (hK:∀D3 A1 K1 A2 K2 A3 K3 h',Sa aS (λz=>h.next<=z/\¬ai A2 z/\¬D3 z) h' A1 nv K1 vs->ay aS h' (ai A2) 300 A2 na K2 xa->ay eH h' D3 248 A3 nt K3 ts->(∀z,ai A2 z->h.next<=z/\¬D3 z)->(∀z,D3 z->h.next<=z)->Nw h h'->Q (.agg #[Y A1 nv K1,Y A2 na K2,Y A3 nt K3]) h') :
  WC Tryz.prog 195 [.agg #[Y Av nv Kv,Y Aa na Ka,Y At nt Kt]] h Q:=by
 have lv:=sv.len;have la:=sa.len;have lt:=st.len;have hnv:=ok.nv;have hna:=ok.na;have hnt:=ok.nt;have st':Sa eH (λz=>z<h.next) h At nt Kt ts:=st.mono λz _ hz=>hz;have sv':Sa aS (λz=>z<h.next) h Av nv Kv vs:=sv.mono λz _ hz=>hz;have sa':Sa aS (λz=>z<h.next) h Aa na Ka xa:=sa.mono λz _ hz=>hz;refine rK λh1 e1 h2 e2=>?_;obtain⟨k1,g1,z1⟩:=aj e1;obtain⟨k2,g2,z2⟩:=aj e2;refine⟨_,_,_,aa (k2.bk U g1) rfl,U,λh3 e3=>?_⟩;obtain⟨k3,g3,z3⟩:=aj e3;rw[qR]at g3;have k13:=(k1.trans k2).trans k3;refine⟨_,_,_,aa ((k2.trans k3).bk U g1) rfl,λm x h4=>∃(i:Nat) (f:Nat->List Value),x=i/\i<=nt/\m=nt - i/\(∀k,(f k).length=3)/\Bk h4 h2.next (cN f nt) 248/\(∀k x,k<i->ts[k]? = ω x->eH.rel (λz=>h3.next<=z) h4 (f k) x)/\Mt (λz=>z=h2.next) h3 h4,nt,⟨0,_,rfl,Nat.zero_le _,rfl,λ_=>rfl,g3,λk x hk=>absurd hk U,Mt.refl _ _⟩,?_⟩;rintro m x h4 ⟨i,f,rfl,hi,hm,hf,b4,r4,m4⟩;have z4:=m4.next;have k14:Nw h h4:=m4.is_nw k13 λz hz=>U;have g14:Bk h4 h.next [Y Av nv Kv,Y Aa na Ka,Y At nt Kt] 166:=m4.bk U U ((k2.trans k3).bk U g1);have g24:Bk h4 h1.next [Y η 0 0,Y η 0 0,Y η 0 0] 166:=m4.bk U U (k3.bk U g2);refine⟨λhlt=>?_,λhge=>?_⟩
 .obtain⟨b',o',p,q,A',n',K',zs,hA',-,-,ht,f0,f1,f2,sz⟩:=(st'.nw k14).table (k:=i) U;have tok:=ok.types_ _ (List.mem_of_getElem? ht);have hzl:=sz.len;have hm16:0<=p*q/\p*q<=16*16:=⟨Int.mul_nonneg tok.ins_.1 tok.outs_.1,Int.mul_le_mul tok.ins_.2 tok.outs_.2 tok.outs_.1 U⟩;have htl:(zs.length:Int)=p*q:=tok.len;refine⟨i,rfl,b',o',hA',U,_,_,_,_,_,bi f0 f1 f2,λh5 e5=>?_⟩;obtain⟨h6,s6,k6,g6,z6⟩:=aD (vs:=[ξ ψ p,ξ ψ q,Y A' n' K']) e5 rfl (by simp[flat]);obtain⟨h7,s7,b7,z7,o7⟩:=yS (k6.bk U b4) hf (k:=i) U (v:=[ξ ψ p,ξ ψ q,Y A' n' K']) rfl (by simp[flat]);have g7:=(o7 _ U).trans g6;have m7:Mt (λz=>z=h2.next) h6 h7:=⟨U,λz _ hn=>o7 z hn⟩;have hf7:=Eb (k:=i) (p:=p) (q:=q) (A:=A') (n:=n') (K:=K') hf;refine⟨h6,s6,_,_,_,_,_,bi (aa g6 rfl) (aa g6 rfl) (aa g6 rfl),U,h7,s7,_,_,_,aa g7 rfl,wX ((sz.nw k6).off m7 λz hz e=>U) U λA9 K9 h8 o8 k8 lo8=>?_⟩;obtain⟨h9,s9,b9,z9,o9⟩:=Ag (k8.bk U b7) hf7 (k:=i) (j:=2) U U (x:=Y A9 n' K9) rfl;have m9:Mt (λz=>z=h2.next) h8 h9:=⟨U,λz _ hn=>o9 z hn⟩;have z8:=k8.next;have m49:Mt (λz=>z=h2.next) h4 h9:=(((Mt.of k6).then m7).nw k8).then m9;refine⟨A9,n',K9,rfl,U,h9,s9,_,iO U,nt - (i+1),U,i+1,_,rfl,U,rfl,?_,b9,λk x hk hx=>?_,m4.then m49⟩
  .intro j;unfold upd
   split
   .rw[if_pos rfl];rfl
   .exact hf j
  .by_cases e:k=i
   .subst e;obtain rfl:=Option.some.inj (ht.symm.trans hx);refine⟨A9,n',K9,?_,(o8.off m9 λz hz _ e=>by have:=lo8 z hz;omega).sa.mono λz hz _=>by have:=lo8 z hz;omega⟩;unfold upd;simp
   .have h9':=eH.keep (h':=h9) (λz (hz:h3.next<=z) hlt=>m49.get z hlt U) m49.next (r4 k x U hx);have e1:∀(v:List Value) (g:Nat->List Value),upd g i v k=g k:=λv g=>by unfold upd;rw[if_neg e]
    rw[e1,e1];exact h9'
 .obtain rfl:i=nt:=U;refine⟨_,_,_,aa g14 rfl,_,_,_,aa g14 rfl,FU (sv'.nw k14) U λA12 K12 h10 o10 k10 lo10=>⟨_,_,_,rfl,aa (k10.bk U g14) rfl,sa.eqok,FV (sa'.nw (k14.trans k10)) U λA13 K13 h11 o11 k11 lo11=>⟨_,_,_,rfl,?_⟩⟩⟩;have z10:=k10.next;have z11:=k11.next;have kk:=k10.trans k11;obtain⟨h12,s12,b12,z12,q12⟩:=dh (vs:=[Y A12 nv K12,Y A13 na K13,Y (ω ⟨h2.next,0,η⟩) i (cx i)]) (kk.bk U g24) rfl (by simp[flat]);have m12:Mt (λz=>z=h1.next) h11 h12:=⟨U,λz _ hn=>q12 z hn⟩;refine⟨h12,s12,_,_,_,_,_,_,_,_,_,bi (aa b12 rfl) (aa b12 rfl) (aa b12 rfl),hK (λz=>z=h2.next\/(h3.next<=z/\z<h4.next)) _ _ _ _ _ _ h12 ?_ ?_ ?_ (λz hz=>by have:=lo11 z hz;omega) (λz hz=>U) (m12.is_nw (k14.trans kk) λz hz=>U)⟩
  .refine((((o10.sa.mono λz hz hlt=>(⟨lo10 z hz,hlt⟩:h4.next<=z/\z<h10.next)).nw k11).off m12 λz hz e=>U)).mono λz hz _=>⟨U,λho=>by have:=lo11 z ho;omega,λhd=>U⟩
  .exact o11.off m12 λz hz _ e=>by have:=lo11 z hz;omega
  .have hrel:∀k x,k<i->ts[k]? = ω x->eH.rel (λz=>(z=h2.next\/(h3.next<=z/\z<h4.next))/\z≠h2.next) h12 (f k) x:=λk x hk hx=>by
    have r1:=eH.mono (G:=λz=>h3.next<=z/\z<h4.next) (λz (hz:h3.next<=z) hlt=>⟨hz,hlt⟩) (r4 k x hk hx);have m412:Mt (λz=>z=h1.next) h4 h12:=(Mt.of kk).then m12;have r2:=eH.keep (h':=h12) (λz (hz:h3.next<=z/\z<h4.next) hlt=>m412.get z hlt U) m412.next r1;exact eH.mono (λz (hz:h3.next<=z/\z<h4.next) _=>⟨.inr hz,U⟩) r2
   refine ay.lit (m12.bk U U (kk.bk U b4)) (.inl rfl) U lt (by rw[dQ hf];rfl) (λu hu=>?_) λk x hx=>?_
   .obtain⟨k,hk,hu⟩:=List.mem_flatMap.1 hu;have hk':k<i:=by simpa using hk
    have hx:ts[k]? = ω (ts[k]' U):=List.getElem?_eq_getElem _;exact eH.flat (hrel k _ hk' hx) u hu
   have hk:k<i:=by have:=(List.getElem?_eq_some_iff.1 hx).1;omega
   show eH.rel _ h12 (((cN f i).drop (k*3)).take 3) x;rw[jp hf i hk];exact hrel k x hk hx
end
end Eva
end
section
open Go Go.RowKit
namespace Eva
structure cy (h:AH) (W:Nat->Prop) (b m:Nat) (t:TypeId) (L:Nat->List Nat):Prop where
 rows:∃(A:Nat->Option Addr) (K:Nat->Nat),Bk h b ((List.range m).map λs=>Value.slice (A s) (L s).length (K s)) t/\(∀s,s<m->ay cI h (ai (A s)) 3 (A s) (L s).length (K s) (ints (L s)))/\(∀s z,s<m->ai (A s) z->W z)/\(∀s s' z,s<m->s' < m->ai (A s) z->ai (A s') z->s=s')
 pos:b<h.next/\∀z,W z->z≠b/\z<h.next
section
variable {h h':AH}{b m s:Nat}{W:Nat->Prop}{t:TypeId}{L:Nat->List Nat}
theorem cy.new (hb:Bk h b (List.replicate m (Y η 0 0)) t) (hlt:b<h.next):cy h (λ_=>False) b m t (λ_=>[]):=by
 refine⟨⟨λ_=>η,λ_=>0,?_,λs _=>ay.nil _ _ _ _,λs z _ hz=>hz.elim,λs s' z _ _ hz=>hz.elim⟩,hlt,λz hz=>hz.elim⟩;show Bk h b ((List.range m).map λ_=>Value.slice η 0 0) t;rw[List.map_const',List.length_range];exact hb
theorem cy.off (S:cy h W b m t L){M:Nat->Prop}(a:Mt M h h') (hb:¬M b) (hW:∀z,W z->¬M z):cy h' W b m t L:=by
 obtain⟨⟨A,K,h1,h2,h3,h4⟩,p1,p2⟩:=S;have:=a.next;exact⟨⟨A,K,a.bk U hb h1,λs hs=>(h2 s hs).off a λz hz _=>hW z (h3 s z hs hz),h3,h4⟩,U,λz hz=>⟨(p2 z hz).1,by have:=(p2 z hz).2;omega⟩⟩
theorem cy.nw (S:cy h W b m t L) (a:Nw h h'):cy h' W b m t L:=S.off (M:=λ_=>False) (.of a) (λh=>h) (λ_ _ h=>h)
theorem cy.get (S:cy h W b m t L) (hs:s<m):∃A K,ldC h b (0+s)=ω (Y A (L s).length K):=by
 obtain⟨⟨A,K,h1,h2,h3,h4⟩,p1,p2⟩:=S;exact⟨A s,K s,by rw[aJ h1,Nat.zero_add];simp[hs]⟩
theorem cy.app (S:cy h W b m t L) (hs:s<m) (x:Nat) (hlen:(L s).length<=100000) :
  ∃A K,ldC h b (0+s)=ω (Y A (L s).length K)/\∀h1,h1=AH.new h (.cells [ξ ψ (x:Int)] 3 false)->∃A' n' K' h2,ah Tryz.prog h1 (ω (.slice 3)) (ω (.slice 3)) (Y A (L s).length K) (Y (ω ⟨h.next,0,η⟩) 1 2)=ω (Y A' n' K',h2)/\Mt W h h2/\
   ∃h3,j0 h2 b (0+s) [Y A' n' K']=ω h3/\cy h3 (λz=>W z\/(h.next<=z/\z<h3.next)) b m t (upd L s (L s ++ [x]))/\Mt (λz=>z=b\/W z) h h3:=by
 obtain⟨⟨A,K,g1,g2,g3,g4⟩,p1,p2⟩:=S;refine⟨A s,K s,by rw[aJ g1,Nat.zero_add];simp[hs],λh1 e1=>?_⟩;obtain⟨k1,w1,z1⟩:=aj e1;have hz:Sz cI (λz=>z=h.next) h1 (ω ⟨h.next,0,η⟩) 1 2 [(x:Int)]:=Sz.one w1 rfl U rfl rfl;obtain⟨A',K',h2,y1,y2,y3,y4⟩:=bq fY dR ((g2 s hs).nw k1) hz U U;have z2:=y3.next;have nb:∀s',s' < m->¬ai (A s') b:=λs' hs' ho=>(p2 b (g3 s' b hs' ho)).1 rfl;have b2:=y3.bk U (nb s hs) (k1.bk U g1);obtain⟨h3,s3,b3,z3,o3⟩:=ax (v:=Y A' ((L s).length+1) K') b2 (o:=0+s) (by simpa using hs) rfl;have m3:Mt (λz=>z=b) h2 h3:=⟨U,λz _ hn=>o3 z hn⟩;have nA':∀z,ai A' z->z≠b/\(W z\/(h.next<=z/\z<h3.next)):=λz hz=>(y4 z hz).elim (λh=>⟨λe=>nb s hs (e ▸ h),.inl (g3 s z hs h)⟩) (λh=>⟨U,.inr U⟩);have m02:Mt W h h2:=((Mt.of k1).then y3).mono λz hz hlt=>g3 s z hs hz;refine⟨A',(L s).length+1,K',h2,y1,m02,h3,s3,⟨⟨upd A s A',upd K s K',?_,λs' hs'=>?_,λs' z hs' hz=>?_,λs' s'' z hs' hs'' h' h''=>?_⟩,U,λz hz=>hz.elim (λh=>⟨(p2 z h).1,by have:=(p2 z h).2;omega⟩) (λh=>⟨U,h.2⟩)⟩,⟨U,λz hz hn=>(o3 z (λe=>hn (.inl e))).trans (m02.get z hz λho=>hn (.inr ho))⟩⟩
 .rw[Nat.zero_add,qQ hs]at b3;have e:(λs_1=>Value.slice (upd A s A' s_1) (upd L s (L s ++ [x]) s_1).length (upd K s K' s_1))=upd (λs=>Value.slice (A s) (L s).length (K s)) s (Y A' ((L s).length+1) K'):=by
   funext i
   unfold upd
   split
   .rw[List.length_append];rfl
   .rfl
  rw[e];exact b3
 .unfold upd;by_cases e:s' = s
  .subst e;simp only[if_true];have:=y2.off m3 λz hz _ e=>(nA' z hz).1 e;unfold ints at this⊢;rw[List.map_append,List.length_append];exact this
  .simp only[if_neg e];exact(((g2 s' hs').nw k1).off y3 λz hz _ ho=>e (g4 s' s z hs' hs hz ho)).off m3 λz hz _ e'=>nb s' hs' (e' ▸ hz)
 .unfold upd at hz;by_cases e:s' = s
  .rw[if_pos e]at hz;exact(nA' z hz).2
  .rw[if_neg e]at hz;exact .inl (g3 s' z hs' hz)
 .unfold upd at h' h'';have cross:∀{a:Nat},a<m->a≠s->ai (A a) z->ai A' z->False:=fun {a} ha hne h1' h2'=>(y4 z h2').elim (λh=>hne (g4 a s z ha hs h1' h)) (λh=>by have:=(g2 a ha).own h1';omega);by_cases e:s' = s
  .by_cases e':s'' = s
   .omega
   .rw[if_pos e]at h';rw[if_neg e']at h'';exact(cross hs'' e' h'' h').elim
  .by_cases e':s'' = s
   .rw[if_neg e]at h';rw[if_pos e']at h'';exact(cross hs' e h' h'').elim
   .rw[if_neg e]at h';rw[if_neg e']at h'';exact g4 s' s'' z hs' hs'' h' h''
theorem cy.sa (S:cy h W b m t L) (K:Nat):Sa aM (λz=>z=b\/W z) h (ω ⟨b,0,η⟩) m K ((List.range m).map λs=>ints (L s)):=by
 obtain⟨⟨A,K',g1,g2,g3,g4⟩,p1,p2⟩:=S;refine Sa.of_bk g1 (by simp) (.inl rfl) p1 λc x hx=>?_;have hc:c<m:=by have:=(List.getElem?_eq_some_iff.1 hx).1;simpa using this
 have hx':x=ints (L c):=by simp[hc]at hx;exact hx.symm
 subst hx';refine⟨A c,(L c).length,K' c,?_,(g2 c hc).sa.mono λz hz _=>.inr (g3 c z hc hz)⟩;show((((List.range m).map λs=>Value.slice (A s) (L s).length (K' s)).drop (c*1)).take 1)=_;rw[Nat.mul_one];exact du (by rw[List.getElem?_map,List.getElem?_range hc];rfl)
end
end Eva
end
section
open Go Go.RowKit
def gV (xa:List fJ) (p:Bool) (i:Nat) (v:Nat):List Nat:=bU (hit xa p v) i
theorem tq {xa:List fJ}{p:Bool}{i v:Nat}{x:fJ}(hx:xa[i]? = ω x) (hv:(if p then x.1 else x.2.1)=(v:Int)):upd (gV xa p i) v (gV xa p i v ++ [i])=gV xa p (i+1):=by
 funext s
 unfold upd gV;rw[it];have hh:hit xa p s i=decide (s=v):=by
  unfold hit;rw[hx];simp only;rw[hv];by_cases e:s=v
  .subst e;simp
  .simp only[decide_eq_false e];exact beq_false_of_ne U
 by_cases e:s=v
 .subst e;rw[if_pos rfl,hh];simp
 .rw[if_neg e,hh];simp[e]
theorem tt (xa:List fJ) (p:Bool) (i v:Nat):ints (gV xa p i v)=ends xa i (p,v):=rfl
theorem wY (xa:List fJ) (p:Bool) (i v:Nat):(gV xa p i v).length<=i:=aL _ _
namespace Eva
section
variable {h h':AH}{Fa F Ft:Nat->Prop}{Q:Value->AH->Prop}{Av Aa At:Option Addr}{nv Kv na Ka nt Kt:Nat}{vs xa:List fJ}{ts:List wH}
theorem HW (sv:Sa aS F h Av nv Kv vs) (sa:Sa aS Fa h Aa na Ka xa) (st:Sa eH Ft h At nt Kt ts) (ok:sS vs xa ts) (hfew:nv<=1000/\na<=1000)
  (hK:∀g h',h.next<=g->g<h'.next->ldC h' g 0=ω (Y Av nv Kv)->ldC h' g 1=ω (Y Aa na Ka)->ldC h' g 2=ω (Y At nt Kt)->
   (∃A n K,ldC h' g 3=ω (Y A n K)/\Sa aM (λz=>h.next<=z) h' A n K ((⟨vs,xa,ts⟩:ab).endsL false))->(∃A n K,ldC h' g 4=ω (Y A n K)/\Sa aM (λz=>h.next<=z) h' A n K ((⟨vs,xa,ts⟩:ab).endsL true))->
   (∃A n K,ldC h' g 5=ω (Y A n K)/\Sa jo (λz=>h.next<=z) h' A n K (⟨vs,xa,ts⟩:ab).plL)->Nw h h'->Q (ν (ω ⟨g,0,η⟩)) h') :
  WC Tryz.prog 194 [.agg #[Y Av nv Kv,Y Aa na Ka,Y At nt Kt]] h Q:=by
 have lv:=sv.len;have la:=sa.len;have lt:=st.len;refine rJ λh1 e1=>?_;obtain⟨k1,g1,z1⟩:=aj e1;refine⟨_,_,_,_,_,_,_,_,_,bi (aa g1 rfl) (aa g1 rfl) (aa g1 rfl),_,_,_,aa g1 rfl,U,λh2 e2=>?_⟩;obtain⟨k2,g2,z2⟩:=aj e2;refine⟨_,_,_,aa (k2.bk U g1) rfl,U,λh3 e3=>?_⟩;obtain⟨k3,g3,z3⟩:=aj e3;refine⟨_,_,_,aa ((k2.trans k3).bk U g1) rfl,U,λh4 e4 h5 e5=>?_⟩;obtain⟨k4,g4,z4⟩:=aj e4;obtain⟨k5,g5,z5⟩:=aj e5;rw[aQ]at g2 g3;rw[qR]at g4;have k15:=((k2.trans k3).trans k4).trans k5;have S1:cy h5 (λ_=>False) h1.next nv 58 (gV xa false 0):=(cy.new g2 U).nw ((k3.trans k4).trans k5);have S2:cy h5 (λ_=>False) h2.next nv 58 (gV xa true 0):=(cy.new g3 U).nw (k4.trans k5);refine⟨_,_,_,aa (k15.bk U g1) rfl,λm x h6=>∃(i:Nat) (W1 W2:Nat->Prop) (f:Nat->List Value),x=i/\i<=na/\m=na - i/\cy h6 W1 h1.next nv 58 (gV xa false i)/\cy h6 W2 h2.next nv 58 (gV xa true i)/\(∀z,W1 z->h5.next<=z)/\(∀z,W2 z->h5.next<=z)/\(∀z,W1 z->¬W2 z)/\
  (∀k,(f k).length=2)/\Bk h6 h3.next (cN f na) 372/\(∀k,k<i->f k = [ξ ψ (((⟨vs,xa,ts⟩:ab).inPl k:Nat):Int),ξ ψ (((⟨vs,xa,ts⟩:ab).outPl k:Nat):Int)])/\Mt (λz=>z=h1.next\/z=h2.next\/z=h3.next) h5 h6,na,
  ⟨0,λ_=>False,λ_=>False,_,rfl,Nat.zero_le _,rfl,S1,S2,λz hz=>hz.elim,λz hz=>hz.elim,λz hz=>hz.elim,λ_=>rfl,k5.bk U g4,λk hk=>absurd hk U,Mt.refl _ _⟩,?_⟩
 rintro m x h6 ⟨i,W1,W2,f,rfl,hi,hm,T1,T2,lo1,lo2,dj,hf,b6,hfk,m6⟩;have z6:=m6.next;have g6:Bk h6 h4.next [Y Av nv Kv,Y Aa na Ka,Y At nt Kt,Y (ω ⟨h1.next,0,η⟩) nv (cx nv),Y (ω ⟨h2.next,0,η⟩) nv (cx nv),Y (ω ⟨h3.next,0,η⟩) na (cx na)] 169:=m6.bk U U g5;have k06:Nw h h6:=m6.is_nw (k1.trans k15) λz hz=>U;refine⟨λhlt=>?_,λhge=>?_⟩
 .obtain⟨b,o,x,y,w,hA,-,-,hx,e0,e1',e2'⟩:=(sa.nw k06).tri (k:=i) U;obtain⟨⟨a0,a1⟩,⟨a2,a3⟩,-⟩:=ok.arcs_ _ (List.mem_of_getElem? hx);simp only at a0 a1 a2 a3;obtain⟨u,rfl⟩:=Int.eq_ofNat_of_zero_le a0;obtain⟨v,rfl⟩:=Int.eq_ofNat_of_zero_le a2;have hu:u<nv:=U;have hv:v<nv:=U;refine⟨i,rfl,b,o,hA,U,_,_,_,bi e0 e1' e2',λh7 e7=>?_⟩;obtain⟨h8,s8,k8,g8,z8⟩:=aD (vs:=[ξ ψ (u:Int),ξ ψ (v:Int),ξ ψ w]) e7 rfl (by simp[flat]);have G8:=k8.bk U g6;obtain⟨A13,K13,r13⟩:=(T1.nw k8).get hv;obtain⟨A15,K15,r15⟩:=(T2.nw k8).get hu;have l1:=wY xa false i v;have l2:=wY xa true i u;obtain⟨h9,s9,b9,z9,o9⟩:=yS (k8.bk U b6) hf (k:=i) U (v:=[ξ ψ (((gV xa false i v).length:Nat):Int),ξ ψ (((gV xa true i u).length:Nat):Int)]) rfl (by simp[flat]);have m9:Mt (λz=>z=h3.next) h8 h9:=⟨U,λz _ hn=>o9 z hn⟩;have G9:=m9.bk U U G8;have x9:=m9.bk U U g8;have p1:=T1.pos;have p2:=T2.pos;have S19:cy h9 W1 h1.next nv 58 (gV xa false i):=(T1.nw k8).off m9 U λz hz e=>by have:=lo1 z hz;omega
  have S29:cy h9 W2 h2.next nv 58 (gV xa true i):=(T2.nw k8).off m9 U λz hz e=>by have:=lo2 z hz;omega
  obtain⟨A18,K18,r18,H18⟩:=S19.app hv i U;refine⟨h8,s8,_,_,_,aa G8 rfl,_,_,_,aa G8 rfl,_,aa g8 rfl,v,rfl,_,_,rfl,hv,_,_,_,r13,_,_,_,aa G8 rfl,_,aa g8 rfl,u,rfl,_,_,rfl,hu,_,_,_,r15,_,_,rfl,U,h9,s9,_,_,_,aa G9 rfl,_,aa x9 rfl,_,_,_,aa G9 rfl,_,aa x9 rfl,v,rfl,_,_,rfl,hv,_,_,_,r18,λh10 e10=>?_⟩;obtain⟨A19,n19,K19,h11,y11,m11,h12,s12,S12,m12⟩:=H18 h10 e10;have nW1:¬W1 h4.next:=λhw=>by have:=lo1 _ hw;omega
  have nW1':¬W1 h6.next:=λhw=>by have:=(p1.2 _ hw).2;omega
  have nW2:¬W2 h4.next:=λhw=>by have:=lo2 _ hw;omega
  have nW2':¬W2 h6.next:=λhw=>by have:=(p2.2 _ hw).2;omega
  have G11:=m11.bk U nW1 G9;have x11:=m11.bk U nW1' x9;have z12:=m12.next;have G12:=m12.bk U (λh=>h.elim U nW1) G9;have x12:=m12.bk U (λh=>h.elim U nW1') x9;have S212:cy h12 W2 h2.next nv 58 (gV xa true i):=S29.off m12 (λh=>h.elim U (λh=>by have:=lo1 _ h;omega)) λz hz h=>h.elim (λe=>by have:=lo2 z hz;omega) (λh=>dj z h hz);obtain⟨A22,K22,r22,H22⟩:=S212.app hu i U;refine⟨A19,n19,K19,h11,y11,aa x11 rfl,aa G11 rfl,rfl,v,rfl,_,_,rfl,hv,h12,s12,_,_,_,aa G12 rfl,_,aa x12 rfl,_,_,_,aa G12 rfl,_,aa x12 rfl,u,rfl,_,_,rfl,hu,_,_,_,r22,λh13 e13=>?_⟩;obtain⟨A23,n23,K23,h14,y14,m14,h15,s15,S15,m15⟩:=H22 h13 e13;have G14:=m14.bk U nW2 G12;have x14:=m14.bk U nW2' x12;have z15:=m15.next;have S115:=S12.off m15 (λh=>h.elim U (λh=>by have:=lo2 _ h;omega)) λz hz h=>by
   rcases hz with hz | hz
   .exact h.elim (λe=>by have:=lo1 z hz;omega) (dj z hz)
   .exact h.elim U (λh=>by have:=(p2.2 z h).2;omega)
  refine⟨A23,n23,K23,h14,y14,aa x14 rfl,aa G14 rfl,rfl,u,rfl,_,_,rfl,hu,h15,s15,_,iO U,na - (i+1),U,i+1,(λz=>W1 z\/(h9.next<=z/\z<h12.next)),(λz=>W2 z\/(h12.next<=z/\z<h15.next)),upd f i [ξ ψ (((gV xa false i v).length:Nat):Int),ξ ψ (((gV xa true i u).length:Nat):Int)],rfl,U,rfl,by rw[<-tq hx (v:=v) rfl];exact S115,by rw[<-tq hx (v:=u) rfl];exact S15,λz hz=>hz.elim (lo1 z) (λh=>U),λz hz=>hz.elim (lo2 z) (λh=>U),λz hz h=>?_,λj=>?_,?_,λk hk=>?_,?_⟩
  .rcases hz with hz | hz
   .exact h.elim (dj z hz) (λh=>by have:=(p1.2 z hz).2;omega)
   .exact h.elim (λh=>by have:=(p2.2 z h).2;omega) (λh=>U)
  rotate_left
  .exact m15.bk U (λh=>h.elim U (λh=>by have:=lo2 _ h;omega)) (m12.bk U (λh=>h.elim U (λh=>by have:=lo1 _ h;omega)) b9)
  .unfold upd;by_cases e:k=i
   .subst e;rw[if_pos rfl];have i1:(⟨vs,xa,ts⟩:ab).inPl k=(gV xa false k v).length:=by
     unfold ab.inPl ab.to ab.arc;simp only[hx,Option.getD_some,Int.toNat_natCast];rw[<-tt];simp[ints]
    have i2:(⟨vs,xa,ts⟩:ab).outPl k=(gV xa true k u).length:=by
     unfold ab.outPl ab.fr ab.arc;simp only[hx,Option.getD_some,Int.toNat_natCast];rw[<-tt];simp[ints]
    rw[i1,i2]
   .rw[if_neg e];exact hfk k U
  .refine((m6.nw k8).then (m9.mono λz hz _=>.inr (.inr hz))).trans m12 (λz hz hlt=>hz.elim .inl λh=>by have:=lo1 z h;omega) |>.trans m15 λz hz hlt=>hz.elim (λh=>.inr (.inl h)) λh=>by have:=lo2 z h;omega
  .unfold upd
   split
   .rfl
   .exact hf j
 .obtain rfl:i=na:=U;have p1:=T1.pos;have p2:=T2.pos;have hend:∀p,((List.range nv).map λs=>ints (gV xa p i s))=(⟨vs,xa,ts⟩:ab).endsL p:=λp=>by
   unfold ab.endsL ab.nv ab.na;simp only;rw[lv,la];rfl
  refine hK h4.next h6 U U (aa g6 rfl) (aa g6 rfl) (aa g6 rfl) ⟨_,_,_,aa g6 rfl,?_⟩ ⟨_,_,_,aa g6 rfl,?_⟩ ⟨_,_,_,aa g6 rfl,?_⟩ k06
  .rw[<-hend];exact(T1.sa _).mono λz hz _=>hz.elim (λe=>U) λh=>by have:=lo1 z h;omega
  .rw[<-hend];exact(T2.sa _).mono λz hz _=>hz.elim (λe=>U) λh=>by have:=lo2 z h;omega
  .refine Sa.of_bk b6 (by unfold ab.plL ab.na;simp[la]) U U λk x hx=>?_;have hk:k<i:=by have:=(List.getElem?_eq_some_iff.1 hx).1;unfold ab.plL ab.na at this;simp[la]at this;omega
   have hx':x=((((⟨vs,xa,ts⟩:ab).inPl k:Nat):Int),(((⟨vs,xa,ts⟩:ab).outPl k:Nat):Int)):=by
    unfold ab.plL ab.na at hx;simp[la,hk]at hx;exact hx.symm
   subst hx';show((cN f i).drop (k*2)).take 2=_;rw[jp hf i hk,hfk k hk]
end
end Eva
end
section
open Go Go.RowKit
namespace Eva
section
variable {h h':AH}{Fa Fv Ft:Nat->Prop}{Q:Value->AH->Prop}{A Av Aa At:Option Addr}{n K nv Kv na Ka nt Kt:Nat}{vs xa:List fJ}{ts:List wH}
structure rV (h:AH) (Fa Ft F:Nat->Prop) (g:Nat) (N:ab):Prop where
 own:F g/\g<h.next
 verts:∃A n K,ldC h g 0=ω (Y A n K)/\Sa aS F h A n K N.vs
 arcs:∃A n K,ldC h g 1=ω (Y A n K)/\ay aS h Fa 300 A n K N.xa
 types:∃A n K,ldC h g 2=ω (Y A n K)/\ay eH h Ft 248 A n K N.ts
 ins:∃A n K,ldC h g 3=ω (Y A n K)/\Sa aM F h A n K (N.endsL false)
 outs:∃A n K,ldC h g 4=ω (Y A n K)/\Sa aM F h A n K (N.endsL true)
 pls:∃A n K,ldC h g 5=ω (Y A n K)/\Sa jo F h A n K N.plL
 ok:N.Ok
 few:N.nv<=1000/\N.na<=1000
 dj:∀z,(Fa z->¬Ft z/\¬F z)/\(Ft z->¬F z)
theorem rV.gr {g:Nat}{N:ab}{F:Nat->Prop}(X:rV h Fa Ft F g N):gS h Fa (λz=>F z\/Ft z) g N:=by
 obtain⟨o,⟨a1,a2,a3,a4,a5⟩,⟨b1,b2,b3,b4,b5⟩,⟨c1,c2,c3,c4,c5⟩,⟨d1,d2,d3,d4,d5⟩,⟨e1,e2,e3,e4,e5⟩,⟨f1,f2,f3,f4,f5⟩,ok,fw,dj⟩:=X;exact⟨⟨.inl o.1,o.2⟩,⟨a1,a2,a3,a4,a5.mono λz hz _=>.inl hz⟩,⟨b1,b2,b3,b4,b5.sa⟩,⟨c1,c2,c3,c4,c5.sa.mono λz hz _=>.inr hz⟩,⟨d1,d2,d3,d4,d5.mono λz hz _=>.inl hz⟩,⟨e1,e2,e3,e4,e5.mono λz hz _=>.inl hz⟩,⟨f1,f2,f3,f4,f5.mono λz hz _=>.inl hz⟩,ok,fw⟩
theorem rV.keep {g:Nat}{N:ab}{F:Nat->Prop}(X:rV h Fa Ft F g N) (hk:∀b,Fa b\/Ft b\/F b->b<h.next->h'.get b=h.get b) (hn:h.next<=h'.next):rV h' Fa Ft F g N:=by
 obtain⟨o,⟨a1,a2,a3,a4,a5⟩,⟨b1,b2,b3,b4,b5⟩,⟨c1,c2,c3,c4,c5⟩,⟨d1,d2,d3,d4,d5⟩,⟨e1,e2,e3,e4,e5⟩,⟨f1,f2,f3,f4,f5⟩,ok,fw,dj⟩:=X;have hg:∀j,ldC h' g j=ldC h g j:=λj=>bj (hk g (.inr (.inr o.1)) o.2) j;have kF:∀b,F b->b<h.next->h'.get b=h.get b:=λb hb=>hk b (.inr (.inr hb));exact⟨⟨o.1,Nat.lt_of_lt_of_le o.2 hn⟩,⟨a1,a2,a3,(hg _).trans a4,a5.keep kF hn⟩,⟨b1,b2,b3,(hg _).trans b4,b5.keep (λb hb=>hk b (.inl hb)) hn⟩,⟨c1,c2,c3,(hg _).trans c4,c5.keep (λb hb=>hk b (.inr (.inl hb))) hn⟩,⟨d1,d2,d3,(hg _).trans d4,d5.keep kF hn⟩,⟨e1,e2,e3,(hg _).trans e4,e5.keep kF hn⟩,⟨f1,f2,f3,(hg _).trans f4,f5.keep kF hn⟩,ok,fw,dj⟩
theorem rV.nw {g:Nat}{N:ab}{F:Nat->Prop}(X:rV h Fa Ft F g N) (a:Nw h h'):rV h' Fa Ft F g N:=X.keep (λb _ hb=>a.get b hb) a.next
theorem BX (sv:Sa aS Fv h Av nv Kv vs) (sa:Sa aS Fa h Aa na Ka xa) (st:Sa eH Ft h At nt Kt ts) (ok:sS vs xa ts) (hfew:nv<=1000/\na<=1000)
  (hK:∀g h' Fa Ft F,rV h' Fa Ft F g ⟨vs,xa,ts⟩->(∀z,Fa z\/Ft z\/F z->h.next<=z)->Nw h h'->Q (.tuple #[ν (ω ⟨g,0,η⟩),.nilIface]) h') :
  WC Tryz.prog 115 [.agg #[Y Av nv Kv,Y Aa na Ka,Y At nt Kt]] h Q:=by
 refine wy λh1 e1=>?_;obtain⟨k1,g1,z1⟩:=aj e1;have bN:∀{h'},Nw h1 h'->aB h' h.next 0 3=ω [Y Av nv Kv,Y Aa na Ka,Y At nt Kt]:=λa=>bi (aa (a.bk U g1) rfl) (aa (a.bk U g1) rfl) (aa (a.bk U g1) rfl);refine⟨_,_,_,_,_,_,_,_,_,bN (Nw.refl _),BW (sv.nw k1) (sa.nw k1) (st.nw k1) ok λh2 k2=>⟨η,rfl,λ_=>⟨_,_,_,_,_,_,_,_,_,bN k2,?_⟩,λt u h=>by cases h⟩⟩;have k12:=k1.trans k2;refine Aj (sv.nw k12) (sa.nw k12) (st.nw k12) ok λD3 A1 K1 A2 K2 A3 K3 h3 c1 c2 c3 lo lo3 k3=>⟨_,_,_,_,_,_,_,_,_,rfl,?_⟩;have z2:=k12.next;have z3:=k3.next;refine HW c1 c2.sa c3.sa ok hfew λg h4 g1 g2 i0 i1 i2 i3 i4 i5 k4=>⟨_,rfl,?_⟩;obtain⟨d1,d2,d3,d4,d5⟩:=i3;obtain⟨e1,e2,e3,e4,e5⟩:=i4;obtain⟨f1,f2,f3,f4,f5⟩:=i5;have c2':=c2.nw k4;have c3':ay eH h3 (λz=>D3 z/\z<h3.next) 248 A3 nt K3 ts:=c3.mono λz hz hl=>⟨hz,hl⟩;refine hK g h4 (ai A2) (λz=>D3 z/\z<h3.next) (λz=>(h.next<=z/\¬ai A2 z/\¬D3 z)\/h3.next<=z) ⟨⟨.inr g1,g2⟩,⟨_,_,_,i0,(c1.nw k4).mono λz hz _=>.inl ⟨U,hz.2⟩⟩,⟨_,_,_,i1,c2'⟩,⟨_,_,_,i2,c3'.nw k4⟩,⟨d1,d2,d3,d4,d5.mono λz hz _=>.inr hz⟩,⟨e1,e2,e3,e4,e5.mono λz hz _=>.inr hz⟩,⟨f1,f2,f3,f4,f5.mono λz hz _=>.inr hz⟩,ok,?_,λz=>⟨λhz=>⟨λhd=>(lo z hz).2 hd.1,λhf=>hf.elim (λhf=>hf.2.1 hz) λhf=>by have:=c2.own hz;omega⟩,λhd hf=>hf.elim (λhf=>hf.2.2 hd.1) λhf=>U⟩⟩ (λz hz=>?_) ((k12.trans k3).trans k4)
 .have lv:=sv.len;have la:=sa.len;unfold ab.nv ab.na;simp only;omega
 .rcases hz with hz | hz | hz | hz
  .have:=(lo z hz).1;omega
  .have:=lo3 z hz.1;omega
  .omega
  .omega
theorem Ec {h1:AH}{b:Nat}{t:TypeId}{α:Type}{r:Rc α}{F:Nat->Prop}{bytes:Nat}{xs:List α}(hr:qN r) (hT:tf Tryz.prog t r.size bytes=true) (hs:Sz r F h A n K xs) (hn:n*bytes<1000000) (hn':n<1000000) (k1:Nw h h1) (g1:Bk h1 b [] t) (hb:h.next<=b) (hlt:b<h1.next) :
  ∃A' K' h',ah Tryz.prog h1 (ω (.slice t)) (ω (.slice t)) (Y (ω ⟨b,0,η⟩) 0 0) (Y A n K)=ω (Y A' n K',h')/\ay r h' (ai A') t A' n K' xs/\Mt (λz=>z=b) h1 h'/\(∀z,ai A' z->z=b\/(h1.next<=z/\z<h'.next)):=by
 have hB:ay r h1 (ai (ω ⟨b,0,η⟩)) t (ω ⟨b,0,η⟩) 0 (2*0) []:=ay.lit (xs:=[]) (n:=0) g1 rfl U rfl (by simp) (by simp) (by simp);obtain⟨A',K',h',x1,x2,x3,x4⟩:=bq hr hT hB (hs.nw k1) (by rw[Nat.zero_add];omega) U;rw[Nat.zero_add]at x1 x2;rw[List.nil_append]at x2;exact⟨A',K',h',x1,x2,x3.mono λz hz _=>hz,λz hz=>(x4 z hz).imp id id⟩
theorem KY {p q:Int}{F:Nat->Prop}{xs:List Int}(hs:Sz cI F h A n K xs) (hn:n<=10000) (hK:∀A' K' h',Sa cI (λz=>h.next<=z) h' A' n K' xs->Nw h h'->Q (.agg #[ξ ψ p,ξ ψ q,Y A' n K']) h') :
  WC Tryz.prog 196 [.agg #[ξ ψ p,ξ ψ q,Y A n K]] h Q:=by
 refine Cw λh1 e1 h2 e2=>?_;obtain⟨k1,g1,z1⟩:=aj e1;obtain⟨k2,g2,z2⟩:=aj e2;refine⟨p,aa (k2.bk U g1) rfl,q,aa (k2.bk U g1) rfl,λh3 e3=>?_⟩;obtain⟨k3,g3,z3⟩:=aj e3;obtain⟨A',K',h4,x1,x2,x3,x4⟩:=Ec (r:=cI) (bytes:=8) (t:=2) fY (by kernel_rfl) hs U U ((k1.trans k2).trans k3) g3 U U;have z4:=x3.next;have g14:=x3.bk U U ((k2.trans k3).bk U g1);obtain⟨h5,s5,b5,z5,o5⟩:=dh (vs:=[ξ ψ p,ξ ψ q,Y A' n K']) (x3.bk U U (k3.bk U g2)) rfl (by simp[flat]);have m5:Mt (λz=>z=h1.next) h4 h5:=⟨U,λz _ hn=>o5 z hn⟩;refine⟨_,_,_,aa ((k2.trans k3).bk U g1) rfl,A',n,K',h4,x1,aa g14 rfl,aa g14 rfl,h5,s5,_,_,_,_,_,bi (aa b5 rfl) (aa b5 rfl) (aa b5 rfl),hK A' K' h5 ((x2.off m5 λz hz _ e=>by rcases x4 z hz with h | h <;>omega).sa.mono λz hz _=>by rcases x4 z hz with h | h <;>omega) ?_⟩;exact((x3.mono (S':=λz=>h.next<=z) λz hz _=>U).then (m5.mono λz hz _=>U)).is_nw ((k1.trans k2).trans k3) λz hz=>hz
end
end Eva
end
section
open Go Go.RowKit
namespace Eva
section
variable {h h':AH}{Fa Fv Ft F:Nat->Prop}{Q:Value->AH->Prop}{A Av Aa At:Option Addr}{n K nv Kv na Ka nt Kt:Nat}{vs xa:List fJ}{ts:List wH}{p:List (List Int)}
theorem KZ (sv0:Sz aS Fv h Av nv Kv vs) (sa0:Sz aS Fa h Aa na Ka xa) (st0:Sz Rc.tableZ Ft h At nt Kt ts) (hv:nv<=10000) (ha:na<=10000) (ht:nt<=10000) (hc:∀t∈ts,t.2.2.length<=10000)
  (hK:∀A1 K1 A2 K2 A3 K3 h',Sa aS (λz=>h.next<=z) h' A1 nv K1 vs->Sa aS (λz=>h.next<=z) h' A2 na K2 xa->Sa eH (λz=>h.next<=z) h' A3 nt K3 ts->Nw h h'->Q (.agg #[Y A1 nv K1,Y A2 na K2,Y A3 nt K3]) h') :
  WC Tryz.prog 116 [.agg #[Y Av nv Kv,Y Aa na Ka,Y At nt Kt]] h Q:=by
 have sv:Sz aS (λz=>z<h.next) h Av nv Kv vs:=sv0.mono λz _ hz=>hz;have sa:Sz aS (λz=>z<h.next) h Aa na Ka xa:=sa0.mono λz _ hz=>hz;have st:Sz Rc.tableZ (λz=>z<h.next) h At nt Kt ts:=st0.mono λz _ hz=>hz;have lv:=sv.len;have la:=sa.len;have lt:=st.len;refine Cv λh1 e1 h2 e2 h3 e3=>?_;obtain⟨k1,g1,z1⟩:=aj e1;obtain⟨k2,g2,z2⟩:=aj e2;obtain⟨k3,g3,z3⟩:=aj e3;have k13:=(k1.trans k2).trans k3;refine⟨λm x h4=>∃(i:Nat) (A1:Option Addr) (K1:Nat),x=i/\i<=nv/\m=nv - i/\Bk h4 h2.next [Y A1 i K1,Y η 0 0,Y η 0 0] 166/\ay aS h4 (ai A1) 249 A1 i K1 (vs.take i)/\(∀z,ai A1 z->h3.next<=z)/\Mt (λz=>z=h2.next) h3 h4,nv,⟨0,η,0,rfl,Nat.zero_le _,rfl,g3,ay.nil _ _ _ _,λz hz=>hz.elim,Mt.refl _ _⟩,?_⟩;rintro m x h4 ⟨i,A1,K1,rfl,hi,hm,b4,o1,lo1,m4⟩;have z4:=m4.next;have k14:Nw h h4:=m4.is_nw k13 λz hz=>U;have g14:Bk h4 h.next [Y Av nv Kv,Y Aa na Ka,Y At nt Kt] 26:=m4.bk U U ((k2.trans k3).bk U g1);have g24:Bk h4 h1.next [Y η 0 0,Y η 0 0,Y η 0 0] 166:=m4.bk U U (k3.bk U g2);refine⟨_,_,_,aa g14 rfl,λhlt=>?_,λhge=>?_⟩
 .obtain⟨b,o,x,y,z,hA,-,-,hx,e0,e1',e2'⟩:=(sv.nw k14).tri (k:=i) U;refine⟨_,_,_,aa b4 rfl,_,_,_,aa g14 rfl,i,rfl,b,o,hA,U,_,e0,_,_,_,aa g14 rfl,b,o,hA,U,_,e1',_,_,_,aa g14 rfl,b,o,hA,U,_,e2',λh5 e5=>?_⟩;obtain⟨k5,g5,z5⟩:=aj e5;obtain⟨A9,K9,h6,y1,y2,y3,y4⟩:=bq (r:=aS) (bytes:=24) (fB _ _ _) (by kernel_rfl) (o1.nw k5) (Sz.one (r:=aS) (L:=2) (x:=(x,y,z)) (F:=λz=>z=h4.next) g5 rfl U rfl rfl) U U;have z6:=y3.next;obtain⟨h7,s7,b7,z7,o7⟩:=ax (v:=Y A9 (i+1) K9) (y3.bk U (λho=>by have:=lo1 _ ho;omega) (k5.bk U b4)) (o:=0) (by simp) rfl;have m7:Mt (λz=>z=h2.next) h6 h7:=⟨U,λz _ hn=>o7 z hn⟩;have lo9:∀z,ai A9 z->h3.next<=z:=λz hz=>(y4 z hz).elim (lo1 z) (λh=>U);refine⟨A9,i+1,K9,h6,y1,h7,s7,_,iO U,nv - (i+1),U,i+1,A9,K9,rfl,U,rfl,b7,?_,lo9,((m4.nw k5).trans y3 λz hz hlt=>by have:=lo1 z hz;omega).then m7⟩;rw[List.take_add_one,hx];exact y2.off m7 λz hz _ e=>by have:=lo9 z hz;omega
 .obtain rfl:i=nv:=U;rw[List.take_of_length_le U]at o1;refine⟨λm x h8=>∃(j:Nat) (A2:Option Addr) (K2:Nat),x=j/\j<=na/\m=na - j/\Bk h8 h2.next [Y A1 i K1,Y A2 j K2,Y η 0 0] 166/\ay aS h8 (ai A2) 300 A2 j K2 (xa.take j)/\(∀z,ai A2 z->h4.next<=z)/\Mt (λz=>z=h2.next) h4 h8,na,⟨0,η,0,rfl,Nat.zero_le _,rfl,b4,ay.nil _ _ _ _,λz hz=>hz.elim,Mt.refl _ _⟩,?_⟩;rintro m' x h8 ⟨j,A2,K2,rfl,hj,hm',b8,o2,lo2,m8⟩;have z8:=m8.next;have k18:Nw h h8:=m8.is_nw k14 λz hz=>U;have g18:=m8.bk U U g14;have g28:=m8.bk U U g24;refine⟨_,_,_,aa g18 rfl,λhlt=>?_,λhge'=>?_⟩
  .obtain⟨b,o,x,y,z,hA,-,-,hx,e0,e1',e2'⟩:=(sa.nw k18).tri (k:=j) U;refine⟨_,_,_,aa b8 rfl,_,_,_,aa g18 rfl,j,rfl,b,o,hA,U,_,e0,_,_,_,aa g18 rfl,b,o,hA,U,_,e1',_,_,_,aa g18 rfl,b,o,hA,U,_,e2',λh5 e5=>?_⟩;obtain⟨k5,g5,z5⟩:=aj e5;obtain⟨A9,K9,h6,y1,y2,y3,y4⟩:=bq (r:=aS) (bytes:=24) (fB _ _ _) (by kernel_rfl) (o2.nw k5) (Sz.one (r:=aS) (L:=2) (x:=(x,y,z)) (F:=λz=>z=h8.next) g5 rfl U rfl rfl) U U;have z6:=y3.next;obtain⟨h7,s7,b7,z7,o7⟩:=ax (v:=Y A9 (j+1) K9) (y3.bk U (λho=>by have:=lo2 _ ho;omega) (k5.bk U b8)) (o:=1) (by simp) rfl;have m7:Mt (λz=>z=h2.next) h6 h7:=⟨U,λz _ hn=>o7 z hn⟩;have lo9:∀z,ai A9 z->h4.next<=z:=λz hz=>(y4 z hz).elim (lo2 z) (λh=>U);refine⟨A9,j+1,K9,h6,y1,h7,s7,_,iO U,na - (j+1),U,j+1,A9,K9,rfl,U,rfl,b7,?_,lo9,((m8.nw k5).trans y3 λz hz hlt=>by have:=lo2 z hz;omega).then m7⟩;rw[List.take_add_one,hx];exact y2.off m7 λz hz _ e=>by have:=lo9 z hz;omega
  .obtain rfl:j=na:=U;rw[List.take_of_length_le U]at o2;refine⟨λm x h12=>∃(l:Nat) (D:Nat->Prop) (A3:Option Addr) (K3:Nat),x=l/\l<=nt/\m=nt - l/\Bk h12 h2.next [Y A1 i K1,Y A2 j K2,Y A3 l K3] 166/\ay eH h12 D 248 A3 l K3 (ts.take l)/\(∀z,D z->h8.next<=z/\z<h12.next)/\Mt (λz=>z=h2.next) h8 h12,nt,⟨0,λ_=>False,η,0,rfl,Nat.zero_le _,rfl,b8,ay.nil _ _ _ _,λz hz=>hz.elim,Mt.refl _ _⟩,?_⟩;rintro m3 x h12 ⟨l,D,A3,K3,rfl,hl,hm3,b12,o3,hD,m12⟩;have z12:=m12.next;have k112:Nw h h12:=m12.is_nw k18 λz hz=>U;have g112:=m12.bk U U g18;have g212:=m12.bk U U g28;refine⟨_,_,_,aa g112 rfl,λhlt=>?_,λhge3=>?_⟩
   .obtain⟨b',o',p',q',A',n',K',zs,hA',-,-,htt,f0,f1,f2,sz⟩:=(st.nw k112).tableZ (k:=l) U;have hcc:=hc _ (List.mem_of_getElem? htt);have hzl:=sz.len;simp only at hcc;refine⟨_,_,_,aa b12 rfl,_,_,_,aa g112 rfl,l,rfl,b',o',hA',U,_,_,_,_,_,bi f0 f1 f2,KY sz U λA20 K20 h13 s13 k13'=>⟨_,_,_,_,_,rfl,aa (k13'.bk U b12) rfl,o3.spot,λh14 e14=>?_⟩⟩;obtain⟨k14',g14',z14⟩:=aj e14;have z13:=k13'.next;have hz:Sz eH (λz=>h12.next<=z/\z<h14.next) h14 (ω ⟨h13.next,0,η⟩) 1 2 [(p',q',zs)]:=Sz.one g14' ⟨U,U⟩ U rfl ⟨A20,n',K20,rfl,(s13.nw k14').mono λz hz hlt=>⟨hz,hlt⟩⟩;obtain⟨A21,K21,h15,y1,y2,y3,y4⟩:=gQ (r:=eH) (bytes:=40) (by kernel_rfl) (o3.nw (k13'.trans k14')) hz (λb hb ho=>by have:=(hD b (o3.lt ho).1).2;omega) U U;have z15:=y3.next;have nO:¬ai A3 h2.next:=λho=>by have:=(hD _ (o3.lt ho).1).1;omega
    obtain⟨h16,s16,b16,z16,o16⟩:=ax (v:=Y A21 (l+1) K21) (y3.bk U nO ((k13'.trans k14').bk U b12)) (o:=2) (by simp) rfl;have m16:Mt (λz=>z=h2.next) h15 h16:=⟨U,λz _ hn=>o16 z hn⟩;refine⟨A21,l+1,K21,h15,y1,h16,s16,_,iO U,nt - (l+1),U,l+1,λz=>(D z\/(h12.next<=z/\z<h14.next)\/z=h14.next)/\z<h15.next,A21,K21,rfl,U,rfl,b16,?_,λz hz=>?_,((m12.nw (k13'.trans k14')).trans y3 λz hz hlt=>by have:=(hD z (o3.lt hz).1).1;omega).then m16⟩
    .rw[List.take_add_one,htt];refine(y2.mono (D':=λz=>(D z\/(h12.next<=z/\z<h14.next)\/z=h14.next)/\z<h15.next) λz hz hlt=>⟨hz,hlt⟩).off m16 λz hz _ e=>?_;rcases hz.1 with h9 | h9 | h9
     .have:=(hD z h9).1;omega
     .omega
     .omega
    .rcases hz.1 with h9 | h9 | h9
     .have:=hD z h9;omega
     .omega
     .omega
   .obtain rfl:l=nt:=U;rw[List.take_of_length_le U]at o3;obtain⟨h17,s17,b17,z17,o17⟩:=dh (vs:=[Y A1 i K1,Y A2 j K2,Y A3 l K3]) g212 rfl (by simp[flat]);have m17:Mt (λz=>z=h1.next) h12 h17:=⟨U,λz _ hn=>o17 z hn⟩;refine⟨_,_,_,_,_,_,_,_,_,bi (aa b12 rfl) (aa b12 rfl) (aa b12 rfl),h17,s17,_,_,_,_,_,_,_,_,_,bi (aa b17 rfl) (aa b17 rfl) (aa b17 rfl),hK _ _ _ _ _ _ h17 ?_ ?_ ?_ (m17.is_nw k112 λz hz=>U)⟩
    .exact((((o1.sa.off m8 λz hz e=>by have:=lo1 z hz;omega).off m12 λz hz e=>by have:=lo1 z hz;omega).off m17 λz hz e=>by have:=lo1 z hz;omega)).mono λz hz _=>by have:=lo1 z hz;omega
    .exact((o2.sa.off m12 λz hz e=>by have:=lo2 z hz;omega).off m17 λz hz e=>by have:=lo2 z hz;omega).mono λz hz _=>by have:=lo2 z hz;omega
    .exact(o3.sa.off m17 λz hz e=>by have:=(hD z hz).1;omega).mono λz hz _=>by have:=(hD z hz).1;omega
theorem Jo (hs0:Sz (Rc.sliceZ cI) F h A n K p) (hn:n<=10000) (hc:∀x∈p,x.length<=10000) (hK:∀A' K' h',Sa aM (λz=>h.next<=z) h' A' n K' p->Nw h h'->Q (.agg #[Y A' n K']) h'):WC Tryz.prog 118 [.agg #[Y A n K]] h Q:=by
 have hs:Sz (Rc.sliceZ cI) (λz=>z<h.next) h A n K p:=hs0.mono λz _ hz=>hz;have ln:=hs.len;refine zp λh1 e1 h2 e2 h3 e3=>?_;obtain⟨k1,g1,z1⟩:=aj e1;obtain⟨k2,g2,z2⟩:=aj e2;obtain⟨k3,g3,z3⟩:=aj e3;have k13:=(k1.trans k2).trans k3;refine⟨λm x h12=>∃(l:Nat) (D:Nat->Prop) (A3:Option Addr) (K3:Nat),x=l/\l<=n/\m=n - l/\Bk h12 h2.next [Y A3 l K3] 207/\ay aM h12 D 58 A3 l K3 (p.take l)/\(∀z,D z->h3.next<=z/\z<h12.next)/\Mt (λz=>z=h2.next) h3 h12,n,⟨0,λ_=>False,η,0,rfl,Nat.zero_le _,rfl,g3,ay.nil _ _ _ _,λz hz=>hz.elim,Mt.refl _ _⟩,?_⟩;rintro m3 x h12 ⟨l,D,A3,K3,rfl,hl,hm3,b12,o3,hD,m12⟩;have z12:=m12.next;have k112:Nw h h12:=m12.is_nw k13 λz hz=>U;have g112:=m12.bk U U ((k2.trans k3).bk U g1);have g212:=m12.bk U U (k3.bk U g2);refine⟨_,_,_,aa g112 rfl,λhlt=>?_,λhge3=>?_⟩
 .refine⟨_,_,_,aa b12 rfl,λh5 e5=>?_⟩;obtain⟨k5,g5,z5⟩:=aj e5;obtain⟨b',o',A',n',K',zs,hA',-,hb',htt,f0,sz⟩:=(hs.nw k112).rowZ (k:=l) U;have hcc:=hc _ (List.mem_of_getElem? htt);have hzl:=sz.len;obtain⟨A6,K6,h6,x1,x2,x3,x4⟩:=Ec (r:=cI) (bytes:=8) (t:=3) fY (by kernel_rfl) sz U U k5 g5 U U;have z6:=x3.next;have b6:=x3.bk U U (k5.bk U b12);refine⟨_,_,_,aa (k5.bk U g112) rfl,l,rfl,b',o',hA',U,A',n',K',(k5.ldC hb' _).trans f0,A6,n',K6,h6,x1,aa b6 rfl,o3.spot,λh7 e7=>?_⟩;obtain⟨k7,g7,z7⟩:=aj e7;have hz:Sz aM (λz=>h12.next<=z/\z<h7.next) h7 (ω ⟨h6.next,0,η⟩) 1 2 [zs]:=Sz.one g7 ⟨U,U⟩ U rfl ⟨A6,n',K6,rfl,(x2.nw k7).sa.mono λz hz hlt=>⟨by rcases x4 z hz with h | h <;>omega,hlt⟩⟩;have o3':=((o3.nw k5).off x3 λz hz _ e=>by have:=(hD z hz).2;omega).nw k7;obtain⟨A21,K21,h15,y1,y2,y3,y4⟩:=gQ (r:=aM) (bytes:=24) (by kernel_rfl) o3' hz (λb hb ho=>by have:=(hD b (o3.lt ho).1).2;omega) U U;have z15:=y3.next;have nO:¬ai A3 h2.next:=λho=>by have:=(hD _ (o3.lt ho).1).1;omega
  obtain⟨h16,s16,b16,z16,o16⟩:=ax (v:=Y A21 (l+1) K21) (y3.bk U nO (k7.bk U b6)) (o:=0) (by simp) rfl;have m16:Mt (λz=>z=h2.next) h15 h16:=⟨U,λz _ hn=>o16 z hn⟩;refine⟨A21,l+1,K21,h15,y1,h16,s16,_,iO U,n - (l+1),U,l+1,λz=>(D z\/(h12.next<=z/\z<h7.next)\/z=h7.next)/\z<h15.next,A21,K21,rfl,U,rfl,b16,?_,λz hz=>?_,(((m12.nw k5).trans x3 λz hz hlt=>U).nw k7 |>.trans y3 λz hz hlt=>by have:=(hD z (o3.lt hz).1).1;omega).then m16⟩
  .rw[List.take_add_one,htt];refine(y2.mono (D':=λz=>(D z\/(h12.next<=z/\z<h7.next)\/z=h7.next)/\z<h15.next) λz hz hlt=>⟨hz,hlt⟩).off m16 λz hz _ e=>?_;rcases hz.1 with h9 | h9 | h9
   .have:=(hD z h9).1;omega
   .omega
   .omega
  .rcases hz.1 with h9 | h9 | h9
   .have:=hD z h9;omega
   .omega
   .omega
 .obtain rfl:l=n:=U;rw[List.take_of_length_le U]at o3;obtain⟨h17,s17,b17,z17,o17⟩:=dh (vs:=[Y A3 l K3]) g212 rfl (by simp[flat]);have m17:Mt (λz=>z=h1.next) h12 h17:=⟨U,λz _ hn=>o17 z hn⟩;exact⟨_,_,_,fK (aa b12 rfl),h17,s17,_,_,_,fK (aa b17 rfl),hK _ _ h17 ((o3.sa.off m17 λz hz e=>by have:=(hD z hz).1;omega).mono λz hz _=>by have:=(hD z hz).1;omega) (m17.is_nw k112 λz hz=>U)⟩
end
end Eva
end
section
open Go Go.RowKit
namespace Eva
def Rc.at_:Rc (ByteArray×Int) where
 size:=2
 rel:=λ_ _ cs x=>cs = [.string x.1,ξ ψ x.2]
 len:=λh=>by rw[h];rfl
 flat:=λh u hu=>by rw[h]at hu;simp at hu;rcases hu with rfl | rfl <;>rfl
 keep:=λ_ _ h=>h
 mono:=λ_ h=>h
theorem FW:qN Rc.at_:=λh=>h
section
variable {h h':AH}{F:Nat->Prop}{Q:Value->AH->Prop}{A:Option Addr}{n K:Nat}{xs:List Int}
theorem vb {b:Nat}{u v:Value}{t:TypeId}{e:Int}(hb:Bk h b [u,v] t) (hQ:∀h',Mt (λz=>z=b) h h'->Q (.agg #[Y A n K,ξ ψ e]) h') :
  ∃h',j0 h b 0 [Y A n K,ξ ψ e]=ω h'/\∃(A':Option Addr) (n':Nat) (K':Nat) (e':Int),aB h' b 0 2=ω [Y A' n' K',ξ ψ e']/\Q (.agg #[Y A' n' K',ξ ψ e']) h':=by
 obtain⟨h2,s2,b2,z2,o2⟩:=dh (vs:=[Y A n K,ξ ψ e]) hb rfl (by simp[flat]);exact⟨h2,s2,A,n,K,e,kT (aa b2 rfl) (aa b2 rfl),hQ h2 ⟨U,λz _ hn=>o2 z hn⟩⟩
theorem IF {s:ByteArray}{x e:Int}(hK:∀A' h',Sz Rc.at_ (λz=>h.next<=z) h' A' 1 2 [(s,x)]->Nw h h'->Q (.agg #[Y A' 1 2,ξ ψ e]) h'):WC Tryz.prog 12 [.string s,ξ ψ x,ξ ψ e] h Q:=by
 refine Cu λh1 e1 h2 e2=>?_;obtain⟨k1,g1,z1⟩:=aj e1;obtain⟨k2,g2,z2⟩:=aj e2;refine vb (k2.bk U g1) λh3 m3=>hK _ h3 ?_ (m3.is_nw (k1.trans k2) λz hz=>U);exact Sz.one (r:=Rc.at_) (m3.bk U U g2) U (by have:=m3.next;omega) rfl rfl
theorem qT {c:Int}(hK:Q (.bool (aU c)) h):WC Tryz.prog 113 [ξ ψ c] h Q:=by
 refine rZ ⟨λh1=>⟨λh2=>?_,λh2=>⟨λh3=>?_,λh3=>?_⟩⟩,λh1=>⟨λh3=>?_,λh3=>?_⟩⟩
 all_goals first
  | rwa [show aU c=true from decide_eq_true U]at hK
  | rwa [show aU c=false from decide_eq_false U]at hK
theorem tu {c:Int}(hK:Q (.bool (ir c)) h):WC Tryz.prog 112 [ξ ψ c] h Q:=by
 refine vp ⟨λh1=>⟨λh2=>?_,λh2=>?_⟩,λh1=>?_⟩
 all_goals first
  | rwa [show ir c=true from decide_eq_true U]at hK
  | rwa [show ir c=false from decide_eq_false U]at hK
theorem BY {p q:Int}(hs0:Sz cI F h A n K xs) (hn:n<=10000) (hK:∀A' n' K' e h',Nw h h'->(e=0->dM p q xs)->(e≠0->∃G w,n' = 1/\Sz Rc.at_ G h' A' 1 K' [w])->Q (.agg #[Y A' n' K',ξ ψ e]) h') :
  WC Tryz.prog 110 [.agg #[ξ ψ p,ξ ψ q,Y A n K]] h Q:=by
 have hs:Sz cI (λz=>z<h.next) h A n K xs:=hs0.mono λz _ hz=>hz;have ln:=hs.len;refine mH λh1 e1 h2 e2=>?_;obtain⟨k1,g1,z1⟩:=aj e1;obtain⟨k2,g2,z2⟩:=aj e2;have k12:=k1.trans k2;have g12:=k2.bk U g1;have err:∀{h3}{s:ByteArray}{x e:Int},Nw h2 h3->e≠0->WC Tryz.prog 12 [.string s,ξ ψ x,ξ ψ e] h3 (λv1 h3=>∃(A2:Option Addr) (n2:Nat) (K2:Nat) (x4:Int),v1 = .agg #[Y A2 n2 K2,ξ ψ x4]/\∃h4:AH,j0 h3 h1.next 0 [Y A2 n2 K2,ξ ψ x4]=ω h4/\∃(A3:Option Addr) (n3:Nat) (K3:Nat) (x5:Int),aB h4 h1.next 0 2=ω [Y A3 n3 K3,ξ ψ x5]/\Q (.agg #[Y A3 n3 K3,ξ ψ x5]) h4):=fun {h3 s x e} k3 he=>
  IF λA' h' s' k'=>⟨_,_,_,_,rfl,vb ((k3.trans k').bk U g2) λh4 m4=>hK _ _ _ _ h4 (m4.is_nw ((k12.trans k3).trans k') λz hz=>U) (λh=>absurd h he) λ_=>⟨_,_,rfl,s'.off m4 λz hz e=>by have:=k3.next;omega⟩⟩
 refine⟨p,aa g12 rfl,λ_=>err (Nw.refl _) (by decide),λp0=>⟨p,aa g12 rfl,λ_=>err (Nw.refl _) (by decide),λp1=>⟨q,aa g12 rfl,λ_=>err (Nw.refl _) (by decide),λq0=>⟨q,aa g12 rfl,λ_=>err (Nw.refl _) (by decide),λq1=>?_⟩⟩⟩⟩;have hm:0<=p*q/\p*q<=16*16:=⟨Int.mul_nonneg U U,Int.mul_le_mul U U U U⟩;refine⟨_,_,_,aa g12 rfl,p,aa g12 rfl,q,aa g12 rfl,_,ae U U,λheq=>?_,λ_=>err (Nw.refl _) (by decide)⟩;refine⟨λm x h3=>∃i:Nat,x=i/\i<=n/\m=n - i/\Nw h2 h3/\∀c∈xs.take i,aU c=true,n,⟨0,rfl,Nat.zero_le _,rfl,Nw.refl _,by simp⟩,?_⟩;rintro m x h3 ⟨i,rfl,hi,hmi,k3,hw⟩;refine⟨_,_,_,aa (k3.bk U g12) rfl,λhlt=>?_,λhge=>?_⟩
 .obtain⟨b',o,y,hA,-,-,hy,e0⟩:=(hs.nw (k12.trans k3)).int (k:=i) U;refine⟨_,_,_,aa (k3.bk U g12) rfl,i,rfl,b',o,hA,U,_,e0,qT ⟨_,rfl,λht=>⟨_,iO U,n - (i+1),U,i+1,rfl,U,rfl,k3,λc hc=>?_⟩,λ_=>⟨_,ae U U,err k3 (by decide)⟩⟩⟩;rw[List.take_add_one,hy,List.mem_append]at hc;rcases hc with hc | hc
  .exact hw c hc
  .simp at hc;subst hc;exact ht
 .obtain rfl:i=n:=U;rw[List.take_of_length_le U]at hw;exact vb (k3.bk U g2) λh4 m4=>hK _ _ _ _ h4 (m4.is_nw (k12.trans k3) λz hz=>U) (λ_=>⟨U,U,U,hw⟩) (λh=>absurd rfl h)
theorem FX {s:ByteArray}{x e:Int}{G:Nat->Prop}{w:ByteArray×Int}(hs:Sz Rc.at_ G h A 1 K [w]) (he:e≠0) (hK:∀A' n' K' h',Nw h h'->Q (.agg #[Y A' n' K',ξ ψ e]) h') :
  WC Tryz.prog 111 [.string s,ξ ψ x,.agg #[Y A 1 K,ξ ψ e]] h Q:=by
 refine rY λh1 e1 h2 e2=>?_;obtain⟨k1,g1,z1⟩:=aj e1;obtain⟨k2,g2,z2⟩:=aj e2;refine⟨e,aa (k2.bk U g1) rfl,λh=>absurd h he,λ_ h4 e4=>?_⟩;obtain⟨k4,g4,z4⟩:=aj e4;have k14:=(k1.trans k2).trans k4;have g14:=(k2.trans k4).bk U g1;have hB:ay Rc.at_ h4 (ai (ω ⟨h2.next,0,η⟩)) 107 (ω ⟨h2.next,0,η⟩) 1 (2*1) [(s,x)]:=ay.lit (r:=Rc.at_) g4 rfl U rfl rfl (by simp[flat]) λk y hy=>by
  match k,hy with
  | 0,hy=>obtain rfl:=Option.some.inj hy;rfl
 obtain⟨A',K',h5,y1,y2,y3,y4⟩:=bq (bytes:=24) FW (by kernel_rfl) hB (hs.nw k14) U U;have no:∀z,z≠h2.next->¬ai (ω ⟨h2.next,0,η⟩) z:=λz hz h=>hz h;refine⟨_,_,_,aa g14 rfl,e,aa g14 rfl,A',_,K',h5,y1,aa (y3.bk U (no _ U) g14) rfl,vb (y3.bk U (no _ U) ((k4.bk U g2))) λh6 m6=>hK _ _ _ h6 ?_⟩;exact m6.is_nw (y3.is_nw k14 λz hz=>by have:z=h2.next:=hz;omega) λz hz=>U
end
end Eva
end
section
open Go Go.RowKit
namespace Eva
structure jr (h:AH) (F:Nat->Prop) (Av:Option Addr) (nv Kv:Nat) (Aa:Option Addr) (na Ka:Nat) (At:Option Addr) (nt Kt:Nat) (N:ab):Prop where
 vs:Sz aS F h Av nv Kv N.vs
 xa:Sz aS F h Aa na Ka N.xa
 ts:Sz Rc.tableZ F h At nt Kt N.ts
section
variable {h h':AH}{F:Nat->Prop}{Q:Value->AH->Prop}{Av Aa At:Option Addr}{nv Kv na Ka nt Kt:Nat}{N:ab}
theorem jr.nw (Z:jr h F Av nv Kv Aa na Ka At nt Kt N) (a:Nw h h'):jr h' F Av nv Kv Aa na Ka At nt Kt N:=⟨Z.vs.nw a,Z.xa.nw a,Z.ts.nw a⟩
theorem jr.old (Z:jr h F Av nv Kv Aa na Ka At nt Kt N):jr h (λz=>z<h.next) Av nv Kv Aa na Ka At nt Kt N:=⟨Z.vs.mono λz _ hz=>hz,Z.xa.mono λz _ hz=>hz,Z.ts.mono λz _ hz=>hz⟩
theorem FY (Z0:jr h F Av nv Kv Aa na Ka At nt Kt N) (hc:∀t∈N.ts,t.2.2.length<=10000) (hK:∀A' n' K' e h',Nw h h'->(e=0->N.Ok)->Q (.agg #[Y A' n' K',ξ ψ e]) h') :
  WC Tryz.prog 49 [.agg #[Y Av nv Kv,Y Aa na Ka,Y At nt Kt]] h Q:=by
 have Z:=Z0.old;have lv:=Z.vs.len;have la:=Z.xa.len;have lt:=Z.ts.len;refine pp λh1 e1 h2 e2=>?_;obtain⟨k1,g1,z1⟩:=aj e1;obtain⟨k2,g2,z2⟩:=aj e2;have k12:=k1.trans k2;have g12:=k2.bk U g1;have errB:∀{h3}{s:ByteArray}{x e:Int},Nw h h3->Bk h3 h1.next [Y η 0 0,ξ ψ 0] 39->h1.next<h3.next->e≠0->WC Tryz.prog 12 [.string s,ξ ψ x,ξ ψ e] h3 (λv1 h3=>∃(A2:Option Addr) (n2:Nat) (K2:Nat) (x4:Int),v1 = .agg #[Y A2 n2 K2,ξ ψ x4]/\∃h4:AH,j0 h3 h1.next 0 [Y A2 n2 K2,ξ ψ x4]=ω h4/\∃(A3:Option Addr) (n3:Nat) (K3:Nat) (x5:Int),aB h4 h1.next 0 2=ω [Y A3 n3 K3,ξ ψ x5]/\Q (.agg #[Y A3 n3 K3,ξ ψ x5]) h4):=fun {h3 s x e} k3 b3 l3 he=>
  IF λA' h' s' k'=>⟨_,_,_,_,rfl,vb (k'.bk l3 b3) λh4 m4=>hK _ _ _ _ h4 (m4.is_nw (k3.trans k') λz hz=>U) (λh=>absurd h he)⟩
 have err:∀{h3}{s:ByteArray}{x e:Int},Nw h2 h3->e≠0->WC Tryz.prog 12 [.string s,ξ ψ x,ξ ψ e] h3 (λv1 h3=>∃(A2:Option Addr) (n2:Nat) (K2:Nat) (x4:Int),v1 = .agg #[Y A2 n2 K2,ξ ψ x4]/\∃h4:AH,j0 h3 h1.next 0 [Y A2 n2 K2,ξ ψ x4]=ω h4/\∃(A3:Option Addr) (n3:Nat) (K3:Nat) (x5:Int),aB h4 h1.next 0 2=ω [Y A3 n3 K3,ξ ψ x5]/\Q (.agg #[Y A3 n3 K3,ξ ψ x5]) h4):=fun {h3 s x e} k3 he=>errB (k12.trans k3) (k3.bk U g2) (by have:=k3.next;omega) he;refine⟨_,_,_,aa g12 rfl,λ_=>err (Nw.refl _) (by decide),λn0=>⟨_,_,_,aa g12 rfl,λ_=>err (Nw.refl _) (by decide),λn1=>⟨_,_,_,aa g12 rfl,λ_=>err (Nw.refl _) (by decide),λn2=>?_⟩⟩⟩;refine⟨λm x h9=>∃i:Nat,x=i/\i<=nt/\m=nt - i/\Nw h2 h9/\∀t∈N.ts.take i,dM t.1 t.2.1 t.2.2,nt,⟨0,rfl,Nat.zero_le _,rfl,Nw.refl _,by simp⟩,?_⟩;rintro m x h9 ⟨i,rfl,hi,hm,k9,ht9⟩;refine⟨_,_,_,aa (k9.bk U g12) rfl,λhlt=>?_,λhge=>?_⟩
 .obtain⟨b',o',p,q,A',n',K',zs,hA',-,-,htt,f0,f1,f2,sz⟩:=(Z.nw (k12.trans k9)).ts.tableZ (k:=i) U;have hcc:=hc _ (List.mem_of_getElem? htt);have hzl:=sz.len;simp only at hcc;refine⟨_,_,_,aa (k9.bk U g12) rfl,i,rfl,b',o',hA',U,_,_,_,_,_,bi f0 f1 f2,BY sz U λA16 n16 K16 e h10 k10 hok hbad=>⟨_,_,_,_,rfl,λh11 e11=>?_⟩⟩;obtain⟨h12,s12,k12',g12',z12⟩:=aD (vs:=[Y A16 n16 K16,ξ ψ e]) e11 rfl (by simp[flat]);have kk:=(k9.trans k10).trans k12';refine⟨h12,s12,e,aa g12' rfl,λhe=>⟨_,iO U,nt - (i+1),U,i+1,rfl,U,rfl,kk,λt hm'=>?_⟩,λhe=>?_⟩
  .rw[List.take_add_one,htt,List.mem_append]at hm';rcases hm' with hm' | hm'
   .exact ht9 t hm'
   .simp at hm';subst hm';exact hok he
  .obtain⟨G,w,hn16,sw⟩:=hbad he;subst hn16;refine⟨_,_,_,_,kT (aa g12' rfl) (aa g12' rfl),FX (sw.nw k12') he λA18 n18 K18 h13 k13=>⟨_,_,_,_,rfl,vb ((kk.trans k13).bk U g2) λh14 m14=>hK _ _ _ _ h14 (m14.is_nw ((k12.trans kk).trans k13) λz hz=>U) (λh=>absurd h he)⟩⟩
 .obtain rfl:i=nt:=U;rw[List.take_of_length_le U]at ht9;refine⟨λm x h15=>∃j:Nat,x=j/\j<=nv/\m=nv - j/\Nw h2 h15/\∀v∈N.vs.take j,ir v.1=true/\ir v.2.1=true/\0<=v.2.2/\v.2.2<N.ts.length,nv,⟨0,rfl,Nat.zero_le _,rfl,k9,by simp⟩,?_⟩;rintro m' x h15 ⟨j,rfl,hj,hm',k15,hv15⟩;have z15:=k15.next;refine⟨_,_,_,aa (k15.bk U g12) rfl,λhlt=>?_,λhge'=>?_⟩
  .obtain⟨b,o,x,y,z,hA,-,-,hx,e0,e1',e2'⟩:=(Z.nw (k12.trans k15)).vs.tri (k:=j) U;refine⟨_,_,_,aa (k15.bk U g12) rfl,j,rfl,b,o,hA,U,_,_,_,bi e0 e1' e2',λh16 e16=>?_⟩;obtain⟨h17,s17,k17,g17,z17⟩:=aD (vs:=[ξ ψ x,ξ ψ y,ξ ψ z]) e16 rfl (by simp[flat]);have kk:=k15.trans k17;refine⟨h17,s17,x,aa g17 rfl,tu ⟨_,rfl,λc1=>⟨y,aa g17 rfl,tu ⟨_,rfl,λc2=>⟨z,aa g17 rfl,λ_=>err kk (by decide),λc3=>⟨z,aa g17 rfl,_,_,_,aa (kk.bk U g12) rfl,λ_=>err kk (by decide),λc4=>⟨_,iO U,nv - (j+1),U,j+1,rfl,U,rfl,kk,λv hv=>?_⟩⟩⟩,λ_=>err kk (by decide)⟩⟩,λ_=>err kk (by decide)⟩⟩;rw[List.take_add_one,hx,List.mem_append]at hv;rcases hv with hv | hv
   .exact hv15 v hv
   .simp at hv;subst hv;exact⟨c1,c2,by simp only;omega,by simp only;omega⟩
  .obtain rfl:j=nv:=U;rw[List.take_of_length_le U]at hv15;refine⟨_,_,_,aa (k15.bk U g12) rfl,U,λh28 e28=>?_⟩;obtain⟨k28,g28,z28⟩:=aj e28;refine⟨_,_,_,aa ((k15.trans k28).bk U g12) rfl,U,λh29 e29=>?_⟩;obtain⟨k29,g29,z29⟩:=aj e29;rw[aQ]at g28 g29;have k229:=(k15.trans k28).trans k29;have z229:=k229.next;refine⟨λm x h30=>∃l:Nat,x=l/\l<=na/\m=na - l/\Bk h30 h15.next ((nK dS N.xa j l).map (Value.int .i64)) 3/\Bk h30 h28.next ((nK iT N.xa j l).map (Value.int .i64)) 3/\Mt (λz=>z=h15.next\/z=h28.next) h29 h30/\∀a∈N.xa.take l,(0<=a.1/\a.1<N.vs.length)/\(0<=a.2.1/\a.2.1<N.vs.length)/\aU a.2.2=true,na,⟨0,rfl,Nat.zero_le _,rfl,by rw[jD,List.map_replicate];exact k29.bk U g28,by rw[jD,List.map_replicate];exact g29,Mt.refl _ _,by simp⟩,?_⟩;rintro m3 x h30 ⟨l,rfl,hl,hm3,b30,c30,m30,ha30⟩;have z30:=m30.next;have k030:Nw h h30:=m30.is_nw (k12.trans k229) λz hz=>U;have g30:Bk h30 h.next [Y Av j Kv,Y Aa na Ka,Y At i Kt] 26:=m30.bk U U (k229.bk U g12);have r30:Bk h30 h1.next [Y η 0 0,ξ ψ 0] 39:=m30.bk U U (k229.bk U g2);refine⟨_,_,_,aa g30 rfl,λhlt=>?_,λhge3=>?_⟩
   .obtain⟨b,o,x,y,z,hA,-,-,hx,e0,e1',e2'⟩:=(Z.nw k030).xa.tri (k:=l) U;refine⟨_,_,_,aa g30 rfl,l,rfl,b,o,hA,U,_,_,_,bi e0 e1' e2',λh31 e31=>?_⟩;obtain⟨h32,s32,k32,g32,z32⟩:=aD (vs:=[ξ ψ x,ξ ψ y,ξ ψ z]) e31 rfl (by simp[flat]);have er:∀{s:ByteArray}{x e:Int},e≠0->_:=fun {s x e} he=>errB (s:=s) (x:=x) (k030.trans k32) (k32.bk U r30) U he;have G32:=k32.bk U g30;refine⟨h32,s32,x,aa g32 rfl,λ_=>er (by decide),λx0=>⟨x,aa g32 rfl,_,_,_,aa G32 rfl,λ_=>er (by decide),λx1=>⟨y,aa g32 rfl,λ_=>er (by decide),λy0=>⟨y,aa g32 rfl,_,_,_,aa G32 rfl,λ_=>er (by decide),λy1=>⟨z,aa g32 rfl,qT ⟨_,rfl,λhw=>?_,λ_=>er (by decide)⟩⟩⟩⟩⟩⟩;obtain⟨u,rfl⟩:=Int.eq_ofNat_of_zero_le (show 0<=x by omega);obtain⟨v,rfl⟩:=Int.eq_ofNat_of_zero_le (show 0<=y by omega);have hu:u<j:=U;have hv:v<j:=U;have c1:=uR dS N.xa l v;have c2:=uR iT N.xa l u;have B32:=k32.bk U b30;have C32:=k32.bk U c30;obtain⟨h42,s42,b42,z42,o42⟩:=ax (v:=ξ ψ (((N.xa.take l).countP (λa=>iT a == (u:Int)):Int)+1)) C32 (o:=0+u) (by simp[lW];omega) rfl;have B42:=(o42 _ U).trans B32;have g42:=(o42 _ U).trans g32;obtain⟨h43,s43,b43,z43,o43⟩:=ax (v:=ξ ψ (((N.xa.take l).countP (λa=>dS a == (v:Int)):Int)+1)) B42 (o:=0+v) (by simp[lW];omega) rfl;refine⟨(u:Int),aa g32 rfl,u,rfl,hu,(((N.xa.take l).countP (λa=>iT a == (u:Int)):Nat):Int),?_,_,ae U U,hu,h42,s42,_,aa g42 rfl,v,rfl,hv,(((N.xa.take l).countP (λa=>dS a == (v:Int)):Nat):Int),?_,_,ae U U,hv,h43,s43,_,iO U,na - (l+1),U,l+1,rfl,U,rfl,?_,?_,?_,λa ha=>?_⟩
    .rw[aJ C32,Nat.zero_add,List.getElem?_map,eA hu];rfl
    .rw[aJ B42,Nat.zero_add,List.getElem?_map,eA hv];rfl
    .rw[jE (f:=dS) hx rfl hv,List.map_set];rw[Nat.zero_add]at b43;exact b43
    .rw[jE (f:=iT) hx rfl hu,List.map_set];rw[Nat.zero_add]at b42;exact(o43 _ U).trans b42
    .exact⟨U,λz hz hn=>(o43 z (λe=>hn (.inl e))).trans ((o42 z (λe=>hn (.inr e))).trans ((k32.get z U).trans (m30.get z hz hn)))⟩
    .rw[List.take_add_one,hx,List.mem_append]at ha;rcases ha with ha | ha
     .exact ha30 a ha
     .simp at ha;subst ha;exact⟨⟨by simp only;omega,by simp only;omega⟩,⟨by simp only;omega,by simp only;omega⟩,hw⟩
   .obtain rfl:l=na:=U;have hin:N.xa.take l=N.xa:=List.take_of_length_le U;rw[hin]at ha30;refine⟨λm x h46=>∃y:Nat,x=y/\y<=j/\m=j - y/\Nw h30 h46/\∀(q:Nat) v t,q<y->N.vs[q]? = ω v->N.ts[v.2.2.toNat]? = ω t->(N.xa.countP λa=>dS a == (q:Int))<=16/\(N.xa.countP λa=>iT a == (q:Int))<=16/\t.1=(N.xa.countP λa=>dS a == (q:Int):Nat)/\t.2.1=(N.xa.countP λa=>iT a == (q:Int):Nat),j,⟨0,rfl,Nat.zero_le _,rfl,Nw.refl _,λq v t h=>absurd h U⟩,?_⟩;rintro m4 x h46 ⟨y,rfl,hy,hm4,k46,hd46⟩;have z46:=k46.next;have G46:=k46.bk U g30;refine⟨_,_,_,aa G46 rfl,λhlt=>?_,λhge4=>?_⟩
    .obtain⟨b,o,vx,vy,vz,hA,-,-,hx,e0,e1',e2'⟩:=(Z.nw (k030.trans k46)).vs.tri (k:=y) U;obtain⟨-,-,t0,t1⟩:=hv15 _ (List.mem_of_getElem? hx);simp only at t0 t1;obtain⟨ty,rfl⟩:=Int.eq_ofNat_of_zero_le t0;obtain⟨b',o',p,q,A',n',K',zs,hA',-,-,htt,f0,f1,f2,sz⟩:=(Z.nw (k030.trans k46)).ts.tableZ (k:=ty) U;refine⟨_,_,_,aa G46 rfl,_,_,_,aa G46 rfl,y,rfl,b,o,hA,U,_,e2',ty,rfl,b',o',hA',U,_,_,_,_,_,bi f0 f1 f2,λh47 e47=>?_⟩;obtain⟨h48,s48,k48,g48,z48⟩:=aD (vs:=[ξ ψ p,ξ ψ q,Y A' n' K']) e47 rfl (by simp[flat]);have kk:=k46.trans k48;have er:∀{s:ByteArray}{x e:Int},e≠0->_:=fun {s x e} he=>errB (s:=s) (x:=x) (k030.trans kk) (kk.bk U r30) U he;have r1:ldC h48 h15.next (0+y)=ω (ξ ψ ((N.xa.countP (λa=>dS a == (y:Int)):Nat):Int)):=by
      rw[aJ (kk.bk U b30),Nat.zero_add,List.getElem?_map,eA U,hin];rfl
     have r2:ldC h48 h28.next (0+y)=ω (ξ ψ ((N.xa.countP (λa=>iT a == (y:Int)):Nat):Int)):=by
      rw[aJ (kk.bk U c30),Nat.zero_add,List.getElem?_map,eA U,hin];rfl
     refine⟨h48,s48,U,_,r1,λ_=>er (by decide),λd1=>⟨U,_,r2,λ_=>er (by decide),λd2=>⟨U,_,r1,p,aa g48 rfl,λd3=>⟨U,_,r2,q,aa g48 rfl,λd4=>⟨_,iO U,j - (y+1),U,y+1,rfl,U,rfl,kk,λq' v t hq hv ht=>?_⟩,λ_=>er (by decide)⟩,λ_=>er (by decide)⟩⟩⟩;by_cases e:q' = y
     .subst e;rw[hx]at hv;obtain rfl:=Option.some.inj hv;simp only[Int.toNat_natCast]at ht;rw[htt]at ht;obtain rfl:=Option.some.inj ht;exact⟨U,U,d3.symm,d4.symm⟩
     .exact hd46 q' v t U hv ht
    .obtain rfl:y=j:=U;exact vb (k46.bk U r30) λh57 m57=>hK _ _ _ _ h57 (m57.is_nw (k030.trans k46) λz hz=>U) λ_=>⟨U,U,U,ht9,hv15,ha30,λq v t hv ht=>hd46 q v t (by have:=(List.getElem?_eq_some_iff.1 hv).1;omega) hv ht⟩
end
end Eva
end
section
open Go Go.RowKit
structure Jp (low row:List Int) (k:Nat) (up:List Int):Prop where
 here:∀(v:Nat) (x y:Int),v<k->low[v]? = ω x->row[v]? = ω y->up[x.toNat]? = ω y
 from_:∀(c:Nat) (u:Int),up[c]? = ω u->u = -1\/∃v,v<k/\low[v]? = ω (c:Int)/\row[v]? = ω u
theorem Jp.next {low row up:List Int}{k c:Nat}{u r:Int}(h:Jp low row k up) (hl:low[k]? = ω (c:Int)) (hr:row[k]? = ω r) (hu:up[c]? = ω u) (hok:u<0\/u=r) (hrow:∀x∈row,0<=x):Jp low row (k+1) (up.set c r):=by
 have hcl:=(List.getElem?_eq_some_iff.1 hu).1;refine⟨λv x y hv h1 h2=>?_,λc' u' h1=>?_⟩
 .by_cases hvk:v=k
  .subst hvk;rw[hl]at h1;rw[hr]at h2;obtain rfl:=Option.some.inj h1;obtain rfl:=Option.some.inj h2;rw[Int.toNat_natCast,List.getElem?_set_self hcl]
  .have h3:=h.here v x y U h1 h2;by_cases hx:x.toNat=c
   .rw[hx]at h3⊢;rw[hu]at h3;have h3:=Option.some.inj h3;have h4:=hrow y (List.mem_of_getElem? h2);rw[List.getElem?_set_self hcl]
    congr 1
    omega
   .rw[List.getElem?_set_ne U];exact h3
 .by_cases hc:c' = c
  .subst hc;rw[List.getElem?_set_self hcl]at h1;obtain rfl:=Option.some.inj h1;exact .inr ⟨k,U,hl,hr⟩
  .rw[List.getElem?_set_ne U]at h1;rcases h.from_ c' u' h1 with h2 | ⟨v,h2,h3,h4⟩
   .exact .inl h2
   .exact .inr ⟨v,U,h3,h4⟩
namespace Eva
section
variable {h h':AH}{F G:Nat->Prop}{Q:Value->AH->Prop}{A B:Option Addr}{n m K L:Nat}{xs ys low row:List Int}
theorem G4 {g k:Nat}(hk:k<=n) (hn:0<n):∃K',am Tryz.prog 3 (ω ⟨g,0,η⟩) n (cx n) η (ω k) η=ω (Y (ω ⟨g,0,η⟩) k K'):=by
 obtain⟨i,hi,hsz,-⟩:=bg dR;unfold am;rw[hi];have hc2:(cx n) / 2=n:=by unfold cx;omega
 have hp:Nat.beq ((cx n) % 2) 0=true:=by
  have:(cx n) % 2=0:=by unfold cx;omega
  rw[this];rfl
 have b1:Nat.ble k ((cx n) / 2)=true:=Nat.ble_eq_true_of_le U;have b2:Nat.ble 0 k=true:=rfl;show ∃K',cond (Option.isNone (none:Option Nat) || Option.isSome (ω k)) (bS i.size (ω ⟨g,0,η⟩) n (cx n) ((none:Option Nat).getD 0) (ω k) η) η=ω (Y (ω ⟨g,0,η⟩) k K');simp only[Option.isNone_none,Bool.true_or,cond_true,Option.getD_none];unfold bS;simp only[Option.getD_some,b1,b2,Bool.and_self,cond_true,hp];unfold mO;refine⟨cx (cx n / 2 - 0),?_⟩;have:og (ω ⟨g,0,η⟩) (cx n / 2) 0 i.size=ω ⟨g,0,η⟩:=by
  unfold og;rw[hc2];have:Nat.beq n 0=false:=by
   cases hb:Nat.beq n 0 with
   | false=>rfl
   | true=>have:=Nat.eq_of_beq_eq_true hb;omega
  simp[this,aZ]
 rw[this,Nat.sub_zero]
theorem tv (v:Int) (hs:Sa cI F h A n K xs) (hn:n<=100000) (hv:v ∉ xs) (hK:Q (.bool false) h):WC Tryz.prog 293 [Y A n K,ξ ψ v] h Q:=by
 refine fH (ip ⟨λm x h1=>∃i:Nat,x=i/\i<=n/\m=n - i/\h1=h,n,⟨0,rfl,Nat.zero_le _,rfl,rfl⟩,?_⟩);rintro m x h1 ⟨i,rfl,hi,hm,rfl⟩;refine⟨λhlt=>?_,λhge=>⟨_,rfl,λh=>absurd h U,λ_=>hK⟩⟩;obtain⟨b,o,y,hA,-,-,hy,e0⟩:=hs.int (k:=i) U;refine⟨i,rfl,b,o,hA,U,_,e0,λhe=>?_,λhe=>⟨_,(by rw[Int.natCast_succ];exact ae U U:IntKind.i64.wrap ((i:Int)+1)=((i+1:Nat):Int)),n - (i+1),U,i+1,rfl,U,rfl,rfl⟩⟩;subst he;exact absurd (List.mem_of_getElem? hy) hv
theorem Ak (hs:Sa cI F h A n K xs) (hn:n<=100000) (hr:nQ xs n) (hK:Q (.bool true) h):WC Tryz.prog 294 [Y A n K] h Q:=by
 refine fI ⟨_,ae U U,λm x h1=>∃i:Nat,x=(i:Int) - 1/\i<=n/\m=i/\h1=h,n,⟨n,rfl,Nat.le_refl _,rfl,rfl⟩,?_⟩;rintro m x h1 ⟨i,rfl,hi,hm,rfl⟩;refine⟨λhlt=>?_,λhge=>hK⟩;obtain⟨b,o,y,hA,-,-,hy,e0⟩:=hs.int (k:=i - 1) U;obtain⟨b',o',z,hA',-,-,hz,e0'⟩:=hs.int (k:=i - 2) U;rw[hA]at hA';injection hA' with hA';injection hA' with hA1 hA2;subst hA1 hA2;have hle:=hr (i - 2) z y U hz (by rw[show i - 2+1=i - 1 by omega];exact hy);refine⟨i - 1,U,b,o,hA,U,_,e0,_,ae U U,i - 2,U,U,_,e0',G1 _ _ ⟨_,rfl,λh=>absurd (of_decide_eq_true h) U,λ_=>⟨_,ae U U,i - 1,U,i - 1,U,U,rfl,rfl⟩⟩⟩
theorem HX (hs:Sa cI F h A n K row) (hn:n<=4096) (h1:lX n row) (h2:eX row) (hK:∀A' n' K' h',Nw h h'->Q (.tuple #[Y A' n' K',.bool true]) h'):WC Tryz.prog 241 [Y A n K] h Q:=by
 have hl:=hs.len;refine uD ⟨U,λh1' e1=>?_⟩;obtain⟨k1,g1,z1⟩:=aj e1;rw[aQ]at g1;refine⟨λm x y h2'=>∃i:Nat,y=i/\i<=n/\m=n - i/\x=aO (row.take i) - 1/\Bk h2' h.next ((yL (row.take i) n).map (Value.int .i64)) 3/\Nw h h2'/\h.next<h2'.next,n,⟨0,rfl,Nat.zero_le _,rfl,by simp[aO],by rw[List.take_zero,zX,List.map_replicate];exact g1,k1,U⟩,?_⟩;rintro m x y h2' ⟨i,rfl,hi,hm,rfl,b2,k2,lt2⟩;have hm0:=cW (row.take i);have hm1:aO (row.take i)<=n:=dq U λx hx=>(h1 x (List.mem_of_mem_take hx)).2;refine⟨λhlt=>?_,λhge=>?_⟩
 .obtain⟨b,o,v,hA,-,-,hv,e0⟩:=(hs.nw k2).int (k:=i) U;obtain⟨v0,v1⟩:=h1 v (List.mem_of_getElem? hv);obtain⟨c,rfl⟩:=Int.eq_ofNat_of_zero_le v0;have hcn:c<n:=U;have hmo:=eB hv;have hcnt:((row.take i).count (c:Int):Int)<=n:=by
   have:=List.count_le_length (a:=(c:Int)) (l:=row.take i);rw[List.length_take]at this;omega
  obtain⟨h3,s3,b3,z3,o3⟩:=ax (v:=ξ ψ (((row.take i).count (c:Int):Int)+1)) b2 (o:=0+c) (by simp[jF];omega) rfl;refine⟨i,rfl,b,o,hA,U,_,e0,λh=>absurd h U,λ_=>⟨λh=>absurd h U,λ_=>⟨c,rfl,hcn,((row.take i).count (c:Int):Int),?_,_,ae U U,hcn,h3,s3,_,rfl,_,(by rw[Int.natCast_succ];exact ae U U:IntKind.i64.wrap ((i:Int)+1)=((i+1:Nat):Int)),n - (i+1),U,i+1,rfl,U,rfl,?_,?_,⟨by have:=k2.next;omega,λb hb=>(o3 b U).trans (k2.get b hb)⟩,U⟩⟩⟩
  .rw[aJ b2,Nat.zero_add,List.getElem?_map,jG hcn];rfl
  .rw[hmo];split <;>omega
  .rw[Nat.zero_add,<-List.map_set]at b3;rw[List.take_add_one,hv];show Bk h3 h.next ((yL (row.take i ++ [(c:Int)]) n).map _) _;rw[wJ hcn];exact b3
 .obtain rfl:i=n:=U;have hin:row.take i=row:=List.take_of_length_le U;rw[hin]at b2 hm0 hm1⊢;obtain⟨q,hq⟩:∃q:Nat,aO row=q:=⟨(aO row).toNat,U⟩;refine⟨_,ae U U,q,U,?_⟩;rcases Nat.eq_zero_or_pos i with h0 | h0
  .subst h0;have hq0:q=0:=U;subst hq0;refine⟨_,_,_,(by kernel_rfl:am Tryz.prog 3 (ω ⟨h.next,0,η⟩) 0 (cx 0) η (ω 0) η=ω (Y (ω ⟨h.next,0,η⟩) 0 0)),tv (F:=λ_=>True) (xs:=[]) 0 ⟨rfl,.inr ⟨_,_,rfl⟩,λh=>absurd h (Nat.lt_irrefl _)⟩ U (by simp) ⟨_,rfl,λh=>Bool.noConfusion h,λ_=>hK _ _ _ _ k2⟩⟩
  .obtain⟨K',hsl⟩:=G4 (n:=i) (g:=h.next) (k:=q) U h0;have hz:(0:Int) ∉ yL row q:=λhm=>by
    obtain⟨j,hj⟩:=List.getElem?_of_mem hm;have hjl:=(List.getElem?_eq_some_iff.1 hj).1;rw[jF]at hjl;rw[jG hjl]at hj;exact(wQ h1).1 h2 j U (Option.some.inj hj)
   have hsa:Sa cI (λb=>b=h.next) h2' (ω ⟨h.next,0,η⟩) q K' (yL row q):=by
    have:=Sa.of_ints (F:=λb=>b=h.next) (n:=i) (K:=K') (k:=.i64) b2 (jF _ _) rfl lt2;refine⟨jF _ _,.inr ⟨_,_,rfl⟩,λ_=>⟨h.next,0,rfl,rfl,lt2,λk x hk=>?_⟩⟩;have hkl:=(List.getElem?_eq_some_iff.1 hk).1;rw[jF]at hkl;refine⟨[ξ ψ x],λj u hu=>?_,rfl⟩
    match j,hu with
    | 0,hu=>
     obtain rfl:=Option.some.inj hu;show ldC h2' h.next (0+(k*1+0))=_;rw[aJ b2,Nat.mul_one,Nat.add_zero,Nat.zero_add,List.getElem?_map,jG U,<-jG hkl,hk];rfl
   exact⟨_,_,_,hsl,tv 0 hsa U hz ⟨_,rfl,λh=>Bool.noConfusion h,λ_=>hK _ _ _ _ k2⟩⟩
end
end Eva
end
section
open Go Go.RowKit
namespace Eva
section
variable {h h':AH}{F:Nat->Prop}{Q:Value->AH->Prop}{A:Option Addr}{n K:Nat}{p:List (List Int)}{row:List Int}
theorem Ed (hs:Sz cI F h A n K row) (hn:n<=4096) (hx:∀x∈row,0<=x/\x<4096) (hK:Q (ξ ψ (aO row)) h):WC Tryz.prog 192 [Y A n K] h Q:=by
 have ln:=hs.len;refine vq ⟨λm x y h1=>∃i:Nat,y=i/\i<=n/\m=n - i/\x=aO (row.take i)/\h1=h,n,⟨0,rfl,Nat.zero_le _,rfl,rfl,rfl⟩,?_⟩;rintro m x y h1 ⟨i,rfl,hi,hm,rfl,rfl⟩;refine⟨λhlt=>?_,λhge=>?_⟩
 .obtain⟨b,o,v,hA,-,-,hv,e0⟩:=hs.int (k:=i) U;have:=hx v (List.mem_of_getElem? hv);refine⟨i,rfl,b,o,hA,U,_,e0,_,ae U U,_,rfl,_,iO U,n - (i+1),U,i+1,rfl,U,rfl,?_,rfl⟩;rw[eB hv]
  split <;>omega
 .obtain rfl:i=n:=U;rw[List.take_of_length_le U];exact hK
theorem BZ {nv l:Nat}(hs0:Sz (Rc.sliceZ cI) F h A n K p) (hn:n<=6) (hnv:nv<=4096) (h1l:1<=l) (hl:l<=n) (hr:p[l - 1]? = ω row) (hlow:∀low,2<=l->p[l - 2]? = ω low->low.length=nv)
  (hK:∀e h',Nw h h'->(e=0->row.length=nv/\lX nv row/\eX row/\∀low,2<=l->p[l - 2]? = ω low->fV low row)->Q (ξ ψ e) h') :
  WC Tryz.prog 114 [ξ ψ nv,.agg #[Y A n K],ξ ψ l,Y η 0 0] h Q:=by
 have hs:Sz (Rc.sliceZ cI) (λz=>z<h.next) h A n K p:=hs0.mono λz _ hz=>hz;have ln:=hs.len;refine kZ λh1 e1=>?_;obtain⟨k1,g1,z1⟩:=aj e1;obtain⟨b,o,A4,n4,K4,row',hA,hF,hb,hr',e0,s4⟩:=(hs.nw k1).rowZ (k:=l - 1) U;rw[hr]at hr';obtain rfl:=Option.some.inj hr';have l4:=s4.len;refine⟨_,_,_,aa g1 rfl,_,ae U U,l - 1,U,b,o,hA,U,A4,n4,K4,e0,λheq=>?_,λ_=>hK _ h1 k1 (λh=>absurd h (by decide))⟩;have hn4:n4=nv:=U;subst hn4;refine⟨λm x h2=>∃i:Nat,x=i/\i<=n4/\m=n4 - i/\h2=h1/\∀x∈row.take i,0<=x/\x<n4,n4,⟨0,rfl,Nat.zero_le _,rfl,rfl,by simp⟩,?_⟩;rintro m x h2 ⟨i,rfl,hi,hm,rfl,hin⟩;refine⟨λhlt=>?_,λhge=>?_⟩
 .obtain⟨b',o',x,hA',-,-,hx,f0⟩:=s4.int (k:=i) U;refine⟨i,rfl,b',o',hA',U,_,f0,λ_=>hK _ h2 k1 (λh=>absurd h (by decide)),λx0=>⟨U,_,f0,λ_=>hK _ h2 k1 (λh=>absurd h (by decide)),λx1=>⟨_,iO U,n4 - (i+1),U,i+1,rfl,U,rfl,rfl,λy hy=>?_⟩⟩⟩;rw[List.take_add_one,hx,List.mem_append]at hy;rcases hy with hy | hy
  .exact hin y hy
  .simp at hy;subst hy;omega
 .obtain rfl:i=n4:=U;have hfull:row.take i=row:=List.take_of_length_le U;rw[hfull]at hin;have hm0:=cW row;have hm1:aO row<=i:=dq U λx hx=>(hin x hx).2;refine⟨i,rfl,U,λh3 e3=>?_⟩;obtain⟨k3,g3,z3⟩:=aj e3;rw[aQ]at g3;refine⟨λm x h4=>∃j:Nat,x=j/\j<=i/\m=i - j/\Bk h4 h2.next ((yL (row.take j) i).map (Value.int .i64)) 3/\Nw h2 h4/\h2.next<h4.next,i,⟨0,rfl,Nat.zero_le _,rfl,by rw[List.take_zero,zX,List.map_replicate];exact g3,k3,U⟩,?_⟩;rintro m' x h4 ⟨j,rfl,hj,hm',b4,k4,lt4⟩;refine⟨λhlt=>?_,λhge'=>?_⟩
  .obtain⟨b',o',x,hA',-,-,hx,f0⟩:=(s4.nw k4).int (k:=j) U;obtain⟨x0,x1⟩:=hin x (List.mem_of_getElem? hx);obtain⟨c,rfl⟩:=Int.eq_ofNat_of_zero_le x0;have hc:c<i:=U;have hcnt:((row.take j).count (c:Int):Int)<=i:=by
    have:=List.count_le_length (a:=(c:Int)) (l:=row.take j);rw[List.length_take]at this;omega
   obtain⟨h5,s5,b5,z5,o5⟩:=ax (v:=ξ ψ (((row.take j).count (c:Int):Int)+1)) b4 (o:=0+c) (by simp[jF];omega) rfl;refine⟨j,rfl,b',o',hA',U,_,f0,c,rfl,hc,((row.take j).count (c:Int):Int),?_,_,ae U U,hc,h5,s5,_,iO U,i - (j+1),U,j+1,rfl,U,rfl,?_,⟨by have:=k4.next;omega,λz hz=>(o5 z U).trans (k4.get z hz)⟩,U⟩
   .rw[aJ b4,Nat.zero_add,List.getElem?_map,jG hc];rfl
   .rw[Nat.zero_add,<-List.map_set]at b5;rw[List.take_add_one,hx];show Bk h5 h2.next ((yL (row.take j ++ [(c:Int)]) i).map _) _;rw[wJ hc];exact b5
  .obtain rfl:j=i:=U;rw[hfull]at b4;refine⟨λm x h6=>∃c:Nat,x=c/\(c:Int)<=aO row/\m=(aO row).toNat - c/\h6=h4/\∀d:Nat,d<c->(row.count (d:Int):Int)≠0,(aO row).toNat,⟨0,rfl,U,rfl,rfl,λd h=>absurd h U⟩,?_⟩;rintro m3 x h6 ⟨c,rfl,hc,hm3,rfl,hd⟩;refine Ed (s4.nw k4) hnv (λx hx=>by have:=hin x hx;omega) ⟨_,rfl,λhlt=>?_,λhge3=>?_⟩
   .have hcj:c<j:=U;refine⟨c,rfl,hcj,(row.count (c:Int):Int),by rw[aJ b4,Nat.zero_add,List.getElem?_map,jG hcj];rfl,λ_=>hK _ h6 (k1.trans k4) (λh=>absurd h (by decide)),λhne=>⟨_,iO U,(aO row).toNat - (c+1),U,c+1,rfl,U,rfl,rfl,λd hd'=>?_⟩⟩;by_cases e:d=c
    .subst e;exact hne
    .exact hd d U
   .have hfr:eX row:=(wQ hin).2 λc' hc'=>hd c' U;have k6:=k1.trans k4;refine⟨λh8=>h8=h6/\∀low,2<=l->p[l - 2]? = ω low->fV low row,?_,?_⟩
    .rintro h8 ⟨rfl,hnest⟩;have done:Q (ξ ψ 0) h8:=hK 0 h8 k6 λ_=>⟨U,hin,hfr,hnest⟩;refine⟨λm x h9=>x=0/\h9=h8,0,⟨rfl,rfl⟩,?_⟩;rintro m4 x h9 ⟨rfl,rfl⟩;exact⟨λ_=>⟨λh=>absurd h (by decide),λ_=>done⟩,λ_=>done⟩
    .refine⟨λm x h10=>∃a:Nat,x=a/\a<=j/\m=j - a/\h10=h6/\∀low,2<=l->p[l - 2]? = ω low->∀(a' b':Nat) (x y x' y':Int),a' < a->low[a']? = ω x->low[b']? = ω y->row[a']? = ω x'->row[b']? = ω y'->x<=y->x'<=y',j,⟨0,rfl,Nat.zero_le _,rfl,rfl,λlow _ _ a' b' x y x' y' h=>absurd h U⟩,?_⟩;rintro m5 x h10 ⟨a,rfl,ha,hm5,rfl,hna⟩;refine⟨λhlt=>⟨λhl1=>?_,λhl1=>⟨rfl,λlow h=>absurd h U⟩⟩,λhge5=>⟨rfl,λlow h2 hlo a' b' x y x' y' g1 g2 g3 g4 hxy=>hna low h2 hlo a' b' x y x' y' (by have:=(List.getElem?_eq_some_iff.1 g3).1;omega) g1 g2 g3 g4 hxy⟩⟩;obtain⟨b5,o5,A6,n6,K6,low,hA5,-,-,hlo,f5,s6⟩:=(hs.nw k6).rowZ (k:=l - 2) U;have hll:=hlow low U hlo;have l6:=s6.len;refine⟨λm x h11=>∃q:Nat,x=q/\q<=j/\m=j - q/\h11=h10/\∀(b':Nat) (x y x' y':Int),b' < q->low[a]? = ω x->low[b']? = ω y->row[a]? = ω x'->row[b']? = ω y'->x<=y->x'<=y',j,⟨0,rfl,Nat.zero_le _,rfl,rfl,λb' x y x' y' h=>absurd h U⟩,?_⟩;rintro m6 x h11 ⟨q,rfl,hq,hm6,rfl,hnq⟩;refine⟨λhlt'=>?_,λhge6=>?_⟩
     .obtain⟨b6,o6,x,hA6,-,-,hx,fx⟩:=s6.int (k:=a) U;obtain⟨b7,o7,y,hA7,-,-,hy,fy⟩:=s6.int (k:=q) U;obtain⟨b8,o8,x',hA8,-,-,hx',fx'⟩:=(s4.nw k4).int (k:=a) U;obtain⟨b9,o9,y',hA9,-,-,hy',fy'⟩:=(s4.nw k4).int (k:=q) U;rw[hA8]at hA9;injection hA9 with hA9;injection hA9 with q1 q2;subst q1 q2;have gp:=k4.bk U g1;have next:(x<=y->x'<=y')->∃x32,IntKind.i64.wrap ((q:Int)+1)=x32/\∃m':Nat,m' < m6/\∃q':Nat,x32=q'/\q'<=j/\m' = j - q'/\h11=h11/\∀(b':Nat) (x y x' y':Int),b' < q'->low[a]? = ω x->low[b']? = ω y->row[a]? = ω x'->row[b']? = ω y'->x<=y->x'<=y':=λhxy=>⟨_,iO U,j - (q+1),U,q+1,rfl,U,rfl,rfl,λb' u v u' v' hb' g1 g2 g3 g4 huv=>by
       by_cases e:b' = q
       .subst e;obtain rfl:=Option.some.inj (hx.symm.trans g1);obtain rfl:=Option.some.inj (hy.symm.trans g2);obtain rfl:=Option.some.inj (hx'.symm.trans g3);obtain rfl:=Option.some.inj (hy'.symm.trans g4);exact hxy huv
       .exact hnq b' u v u' v' U g1 g2 g3 g4 huv⟩
      refine⟨_,_,_,aa gp rfl,_,ae U U,l - 2,U,b5,o5,hA5,U,_,_,_,f5,a,rfl,b6,o6,hA6,U,_,fx,_,_,_,aa gp rfl,_,ae U U,l - 2,U,b5,o5,hA5,U,_,_,_,f5,q,rfl,b7,o7,hA7,U,_,fy,λhxy=>⟨b8,o8,hA8,U,_,fx',U,_,fy',λ_=>hK _ h11 k6 (λh=>absurd h (by decide)),λhle=>next λ_=>U⟩,λhxy=>next λh=>absurd h hxy⟩
     .obtain rfl:q=j:=U;refine⟨_,iO U,q - (a+1),U,a+1,rfl,U,rfl,rfl,λlow' h2 hlo' a' b' x y x' y' ha' g1 g2 g3 g4 hxy=>?_⟩;by_cases e:a' = a
      .subst e;obtain rfl:=Option.some.inj (hlo.symm.trans hlo');exact hnq b' x y x' y' (by have:=(List.getElem?_eq_some_iff.1 g4).1;omega) g1 g2 g3 g4 hxy
      .exact hna low' h2 hlo' a' b' x y x' y' U g1 g2 g3 g4 hxy
end
end Eva
end
section
open Go Go.RowKit
def yT (N:ab):Prop:=N.vs.length<=80/\N.xa.length<=300/\N.ts.length<=80/\∀t∈N.ts,t.2.2.length<=300
namespace Eva
section
variable {h h':AH}{F G:Nat->Prop}{Q:Value->AH->Prop}{A Av Aa At Ap:Option Addr}{n K nv Kv na Ka nt Kt np Kp:Nat}{N:ab}{p:List (List Int)}
theorem Ee {v:Nat}(hs0:Sz (Rc.sliceZ cI) F h A n K p) (hK:∀A' n' K' e h',Nw h h'->(e=0->aP v p)->Q (.agg #[Y A' n' K',ξ ψ e]) h') :
  WC Tryz.prog 51 [ξ ψ v,.agg #[Y A n K],Y η 0 0] h Q:=by
 have hs:Sz (Rc.sliceZ cI) (λz=>z<h.next) h A n K p:=hs0.mono λz _ hz=>hz;have ln:=hs.len;refine mG λh1 e1 h2 e2=>?_;obtain⟨k1,g1,z1⟩:=aj e1;obtain⟨k2,g2,z2⟩:=aj e2;have k12:=k1.trans k2;have g12:=k2.bk U g1;have err:∀{h3}{s:ByteArray}{x e:Int},Nw h2 h3->e≠0->WC Tryz.prog 12 [.string s,ξ ψ x,ξ ψ e] h3 (λv1 h3=>∃(A2:Option Addr) (n2:Nat) (K2:Nat) (x4:Int),v1 = .agg #[Y A2 n2 K2,ξ ψ x4]/\∃h4:AH,j0 h3 h1.next 0 [Y A2 n2 K2,ξ ψ x4]=ω h4/\∃(A3:Option Addr) (n3:Nat) (K3:Nat) (x5:Int),aB h4 h1.next 0 2=ω [Y A3 n3 K3,ξ ψ x5]/\Q (.agg #[Y A3 n3 K3,ξ ψ x5]) h4):=fun {h3 s x e} k3 he=>
  IF λA' h' s' k'=>⟨_,_,_,_,rfl,vb ((k3.trans k').bk U g2) λh4 m4=>hK _ _ _ _ h4 (m4.is_nw ((k12.trans k3).trans k') λz hz=>U) (λh=>absurd h he)⟩
 refine⟨λh3=>h3=h2/\v<=4096/\n<=6/\n≠0,?_,λh=>absurd h U,λv0=>⟨λ_=>err (Nw.refl _) (by decide),λv1=>⟨_,_,_,aa g12 rfl,λ_=>err (Nw.refl _) (by decide),λn6=>⟨_,_,_,aa g12 rfl,λ_=>err (Nw.refl _) (by decide),λn0=>⟨λh=>absurd h (by decide),λ_=>⟨rfl,U,U,U⟩⟩⟩⟩⟩⟩;rintro h3 ⟨rfl,hv,hn6,hn0⟩;refine⟨λm x h4=>∃l:Nat,x=l/\1<=l/\l<=n+1/\m=n+1 - l/\Nw h3 h4/\∀(k:Nat) (row:List Int),k+1<l->p[k]? = ω row->row.length=v/\lX v row/\eX row/\∀low,1<=k->p[k - 1]? = ω low->fV low row,n,⟨1,rfl,U,U,rfl,Nw.refl _,λk row h=>absurd h U⟩,?_⟩;rintro m x h4 ⟨l,rfl,hl1,hl,hm,k4,hok⟩;have hs4:=hs.nw (k12.trans k4);refine⟨_,_,_,aa (k4.bk U g12) rfl,λhle=>?_,λhgt=>?_⟩
 .have hr:p[l - 1]? = ω (p[l - 1]' U):=List.getElem?_eq_getElem U;refine⟨_,_,_,fK (aa (k4.bk U g12) rfl),BZ hs4 hn6 hv hl1 U hr (λlow h2 hlo=>(hok (l - 2) low U hlo).1) λe h5 k5 hz=>⟨e,rfl,λhe=>⟨_,iO U,n+1 - (l+1),U,l+1,rfl,U,U,rfl,k4.trans k5,λk row hk hrow=>?_⟩,λhe=>err (k4.trans k5) he⟩⟩;by_cases e:k+1=l
  .have hk':k=l - 1:=U;subst hk';rw[hr]at hrow;obtain rfl:=Option.some.inj hrow;obtain⟨y1,y2,y3,y4⟩:=hz he;exact⟨y1,y2,y3,λlow h1 hlo=>y4 low U (by rw[show l - 2=l - 1 - 1 by omega];exact hlo)⟩
  .exact hok k row U hrow
 .have hl':l=n+1:=U;refine vb (k4.bk U g2) λh5 m5=>hK _ _ _ _ h5 (m5.is_nw (k12.trans k4) λz hz=>U) λ_=>?_;have all:∀x∈p,x.length=v/\lX v x/\eX x:=λx hx=>by
   obtain⟨k,hk⟩:=List.getElem?_of_mem hx;obtain⟨y1,y2,y3,-⟩:=hok k x (by have:=(List.getElem?_eq_some_iff.1 hk).1;omega) hk;exact⟨y1,y2,y3⟩
  exact⟨hv,U,U,λx hx=>(all x hx).1,λx hx=>(all x hx).2.1,λx hx=>(all x hx).2.2,λk l' r h1 h2=>(hok (k+1) r (by have:=(List.getElem?_eq_some_iff.1 h2).1;omega) h2).2.2.2 l' U (by rw[Nat.add_sub_cancel];exact h1)⟩
theorem HY (hs:Sz (Rc.sliceZ cI) F h A n K p) (hmx:n<=9223372036854775807) (hK:∀b h',Nw h h'->(b=true->n<=10/\∀x∈p,x.length<=60)->Q (.bool b) h'):WC Tryz.prog 50 [.agg #[Y A n K]] h Q:=by
 have ln:=hs.len;refine xP λh1 e1=>?_;obtain⟨k1,g1,z1⟩:=aj e1;refine⟨λm x h2=>∃i:Nat,x=i/\i<=n/\m=n - i/\h2=h1/\∀x∈p.take i,x.length<=60,n,⟨0,rfl,Nat.zero_le _,rfl,rfl,by simp⟩,?_⟩;rintro m x h2 ⟨i,rfl,hi,hm,rfl,hx⟩;refine⟨_,_,_,aa g1 rfl,λhlt=>?_,λhge=>⟨_,_,_,aa g1 rfl,λhle=>hK true h2 k1 λ_=>⟨U,λx hm=>hx x (by rw[List.take_of_length_le U];exact hm)⟩,λ_=>hK false h2 k1 λh=>Bool.noConfusion h⟩⟩;obtain⟨b,o,A4,n4,K4,row,hA,-,-,hr,e0,s4⟩:=(hs.nw k1).rowZ (k:=i) U;have l4:=s4.len;have wi:IntKind.i64.wrap ((i:Int)+1)=((i+1:Nat):Int):=by
  have:=(List.getElem?_eq_some_iff.1 hr).1;rw[Int.natCast_succ];exact ae U U
 refine⟨_,_,_,aa g1 rfl,i,rfl,b,o,hA,U,A4,n4,K4,e0,λ_=>hK false h2 k1 λh=>Bool.noConfusion h,λhle=>⟨_,wi,n - (i+1),U,i+1,rfl,U,rfl,rfl,λy hy=>?_⟩⟩;rw[List.take_add_one,hr,List.mem_append]at hy;rcases hy with hy | hy
 .exact hx y hy
 .simp at hy;subst hy;omega
theorem HZ {v:Nat}(hs:Sz (Rc.sliceZ cI) F h A n K p) (hmx:n<=9223372036854775807) (hK:∀b h',Nw h h'->(b=true->n<=10/\(∀x∈p,x.length<=60)/\v<=60/\aP v p)->Q (.bool b) h'):WC Tryz.prog 22 [ξ ψ v,.agg #[Y A n K]] h Q:=by
 refine xO λh1 e1=>?_;obtain⟨k1,g1,z1⟩:=aj e1;refine⟨_,_,_,fK (aa g1 rfl),HY (hs.nw k1) hmx λb h2 k2 hb=>⟨b,rfl,λht=>⟨λh60=>⟨_,_,_,fK (aa (k2.bk U g1) rfl),Ee (hs.nw (k1.trans k2)) λA' n' K' e h3 k3 he=>⟨_,_,_,_,rfl,λh0=>hK true h3 ((k1.trans k2).trans k3) λ_=>⟨(hb ht).1,(hb ht).2,U,he h0⟩,λ_=>hK false h3 ((k1.trans k2).trans k3) λh=>Bool.noConfusion h⟩⟩,λ_=>hK false h2 (k1.trans k2) λh=>Bool.noConfusion h⟩,λ_=>hK false h2 (k1.trans k2) λh=>Bool.noConfusion h⟩⟩
theorem Jq (Z:jr h F Av nv Kv Aa na Ka At nt Kt N) (hK:∀b h',Nw h h'->(b=true->yT N)->Q (.bool b) h'):WC Tryz.prog 48 [.agg #[Y Av nv Kv,Y Aa na Ka,Y At nt Kt]] h Q:=by
 have lv:=Z.vs.len;have la:=Z.xa.len;have lt:=Z.ts.len;refine zn λh1 e1=>?_;obtain⟨k1,g1,z1⟩:=aj e1;have no:∀{h'},Nw h h'->Q (.bool false) h':=λk=>hK false _ k λh=>Bool.noConfusion h;refine⟨_,_,_,aa g1 rfl,λ_=>no k1,λn0=>⟨_,_,_,aa g1 rfl,λ_=>no k1,λn1=>⟨_,_,_,aa g1 rfl,λ_=>no k1,λn2=>?_⟩⟩⟩;refine⟨λm x h2=>∃i:Nat,x=i/\i<=nt/\m=nt - i/\h2=h1/\∀t∈N.ts.take i,t.2.2.length<=300,nt,⟨0,rfl,Nat.zero_le _,rfl,rfl,by simp⟩,?_⟩;rintro m x h2 ⟨i,rfl,hi,hm,rfl,hx⟩;refine⟨_,_,_,aa g1 rfl,λhlt=>?_,λhge=>hK true h2 k1 λ_=>⟨U,U,U,λt ht=>hx t (by rw[List.take_of_length_le U];exact ht)⟩⟩;obtain⟨b',o',p',q',A',n',K',zs,hA',-,-,htt,f0,f1,f2,sz⟩:=(Z.nw k1).ts.tableZ (k:=i) U;have l4:=sz.len;refine⟨_,_,_,aa g1 rfl,i,rfl,b',o',hA',U,A',n',K',f2,λ_=>no k1,λhle=>⟨_,iO U,nt - (i+1),U,i+1,rfl,U,rfl,rfl,λy hy=>?_⟩⟩;rw[List.take_add_one,htt,List.mem_append]at hy;rcases hy with hy | hy
 .exact hx y hy
 .simp at hy;subst hy;simp only;omega
theorem Jr (Z:jr h F Av nv Kv Aa na Ka At nt Kt N) (hK:∀b h',Nw h h'->(b=true->yT N/\N.Ok)->Q (.bool b) h'):WC Tryz.prog 21 [.agg #[Y Av nv Kv,Y Aa na Ka,Y At nt Kt]] h Q:=by
 refine zm λh1 e1=>?_;obtain⟨k1,g1,z1⟩:=aj e1;have bN:∀{h'},Nw h1 h'->aB h' h.next 0 3=ω [Y Av nv Kv,Y Aa na Ka,Y At nt Kt]:=λa=>bi (aa (a.bk U g1) rfl) (aa (a.bk U g1) rfl) (aa (a.bk U g1) rfl);refine⟨_,_,_,_,_,_,_,_,_,bN (Nw.refl _),Jq (Z.nw k1) λb h2 k2 hb=>⟨b,rfl,λht=>⟨_,_,_,_,_,_,_,_,_,bN k2,FY (Z.nw (k1.trans k2)) (λt hm=>by have:=(hb ht).2.2.2 t hm;omega) λA' n' K' e h3 k3 he=>⟨_,_,_,_,rfl,λh0=>hK true h3 ((k1.trans k2).trans k3) λ_=>⟨hb ht,he h0⟩,λ_=>hK false h3 ((k1.trans k2).trans k3) λh=>Bool.noConfusion h⟩⟩,λ_=>hK false h2 (k1.trans k2) λh=>Bool.noConfusion h⟩⟩
theorem La (Z:jr h F Av nv Kv Aa na Ka At nt Kt N) (hs:Sz (Rc.sliceZ cI) G h Ap np Kp p) (hmx:np<=9223372036854775807) (hK:∀b h',Nw h h'->(b=true->yT N/\N.Ok/\N.nv<=60/\np<=10/\(∀x∈p,x.length<=60)/\aP N.nv p)->Q (.bool b) h') :
  WC Tryz.prog 5 [.agg #[Y Av nv Kv,Y Aa na Ka,Y At nt Kt],.agg #[Y Ap np Kp]] h Q:=by
 have lv:N.nv=nv:=Z.vs.len;refine Ct λh1 e1 h2 e2=>?_;obtain⟨k1,g1,z1⟩:=aj e1;obtain⟨k2,g2,z2⟩:=aj e2;have k12:=k1.trans k2;have g12:=k2.bk U g1;refine⟨_,_,_,_,_,_,_,_,_,bi (aa g12 rfl) (aa g12 rfl) (aa g12 rfl),Jr (Z.nw k12) λb h3 k3 hb=>⟨b,rfl,λht=>⟨_,_,_,aa (k3.bk U g12) rfl,_,_,_,fK (aa (k3.bk U g2) rfl),HZ (hs.nw (k12.trans k3)) hmx λb' h4 k4 hb'=>⟨b',rfl,hK b' h4 ((k12.trans k3).trans k4) λht'=>?_⟩⟩,λ_=>hK false h3 (k12.trans k3) λh=>Bool.noConfusion h⟩⟩;obtain⟨y1,y2,y3,y4⟩:=hb' ht';rw[lv];exact⟨(hb ht).1,(hb ht).2,y3,y1,y2,y4⟩
end
end Eva
end
section
open Go Go.RowKit
namespace Eva
section
variable {h h':AH}{F G:Nat->Prop}{Q:Value->AH->Prop}{A B:Option Addr}{n m K L:Nat}{xs ys low row:List Int}
theorem FZ (hs:Sa cI F h A n K low) (ht:Sa cI G h B n L row) (hn:n<=4096) (h1:lX n low) (h2:eX low) (h3:lX n row) (hne:fV low row) (hK:∀h',Nw h h'->Q (.bool true) h'):WC Tryz.prog 242 [Y A n K,.slice B n L] h Q:=by
 have hl:=hs.len;have hl':=ht.len;refine rI ⟨U,λh1' e1=>?_⟩;obtain⟨k1,g1,z1⟩:=aj e1;rw[aQ]at g1;refine⟨λm x h2'=>∃i:Nat,x=i/\i<=n/\m=n - i/\Bk h2' h.next ((List.replicate i (-1:Int) ++ List.replicate (n - i) 0).map (Value.int .i64)) 3/\Nw h h2'/\h.next<h2'.next,n,⟨0,rfl,Nat.zero_le _,rfl,by rw[List.replicate_zero,List.nil_append,List.map_replicate];exact g1,k1,U⟩,?_⟩;rintro m x h2' ⟨i,rfl,hi,hm,b2,k2,lt2⟩;refine⟨λhlt=>?_,λhge=>?_⟩
 .obtain⟨h3',s3,b3,z3,o3⟩:=ax (v:=ξ ψ (-1)) b2 (o:=0+i) (by simp;omega) rfl;refine⟨i,rfl,U,h3',s3,_,(by rw[Int.natCast_succ];exact ae U U:IntKind.i64.wrap ((i:Int)+1)=((i+1:Nat):Int)),n - (i+1),U,i+1,rfl,U,rfl,?_,⟨by have:=k2.next;omega,λb hb=>(o3 b U).trans (k2.get b hb)⟩,U⟩;have e:List.replicate (i+1) (-1:Int) ++ List.replicate (n - (i+1)) 0=(List.replicate i (-1:Int) ++ List.replicate (n - i) 0).set i (-1):=by
   rw[List.set_append_right _ _ (by simp),List.length_replicate,Nat.sub_self,show n - i=(n - (i+1))+1 by omega,List.replicate_succ (n:=n - (i+1)),List.set_cons_zero,List.replicate_succ',List.append_assoc];rfl
  rw[e,List.map_set];rw[Nat.zero_add]at b3;exact b3
 .obtain rfl:i=n:=U;rw[Nat.sub_self,List.replicate_zero,List.append_nil]at b2;refine⟨λm x y h4=>∃(v:Nat) (up:List Int),y=v/\v<=i/\m=i - v/\x=aO (low.take v) - 1/\up.length=i/\Bk h4 h.next (up.map (Value.int .i64)) 3/\Jp low row v up/\(∀u∈up,-1<=u)/\Nw h h4/\h.next<h4.next,i,⟨0,_,rfl,Nat.zero_le _,rfl,by simp[aO],by simp,b2,⟨λv x y h=>U,λc u h=>.inl (List.eq_of_mem_replicate (List.mem_of_getElem? h))⟩,λu h=>by have:=List.eq_of_mem_replicate h;omega,k2,lt2⟩,?_⟩;rintro m x y h4 ⟨v,up,rfl,hv,hm,rfl,hul,b4,hup,hu1,k4,lt4⟩;have hm0:=cW (low.take v);have hm1:aO (low.take v)<=i:=dq U λx hx=>(h1 x (List.mem_of_mem_take hx)).2;refine⟨λhlt=>?_,λhge=>?_⟩
  .obtain⟨b,o,x,hA,-,-,hx,e0⟩:=(hs.nw k4).int (k:=v) U;obtain⟨b',o',r,hB,-,-,hr,e1'⟩:=(ht.nw k4).int (k:=v) U;obtain⟨x0,x1⟩:=h1 x (List.mem_of_getElem? hx);obtain⟨c,rfl⟩:=Int.eq_ofNat_of_zero_le x0;have hcn:c<i:=U;have hmo:=eB hx;obtain⟨u,hu⟩:∃u,up[c]? = ω u:=⟨_,List.getElem?_eq_getElem U⟩;have hub:=hu1 u (List.mem_of_getElem? hu);have rd:ldC h4 h.next (0+c)=ω (ξ ψ u):=by
    rw[aJ b4,Nat.zero_add,List.getElem?_map,hu];rfl
   have hor:u<0\/u=r:=by
    rcases hup.from_ c u hu with h | ⟨v',-,g1,g2⟩
    .exact .inl U
    .exact .inr (hne.eq g1 hx g2 hr)
   obtain⟨h5,s5,b5,z5,o5⟩:=ax (v:=ξ ψ r) b4 (o:=0+c) (by simp;omega) rfl;rw[Nat.zero_add,<-List.map_set]at b5;have fin:∃x10,(if aO (low.take v) - 1<(c:Int) then(c:Int) else aO (low.take v) - 1)=x10/\∃x11,IntKind.i64.wrap ((v:Int)+1)=x11/\∃m':Nat,m' < m/\∃(v':Nat) (up:List Int),x11=v'/\v'<=i/\m' = i - v'/\x10=aO (low.take v') - 1/\up.length=i/\Bk h5 h.next (up.map (Value.int .i64)) 3/\Jp low row v' up/\(∀u∈up,-1<=u)/\Nw h h5/\h.next<h5.next:=by
    refine⟨_,rfl,_,(by rw[Int.natCast_succ];exact ae U U:IntKind.i64.wrap ((v:Int)+1)=((v+1:Nat):Int)),i - (v+1),U,v+1,up.set c r,rfl,U,rfl,?_,by simp[hul],b5,hup.next hx hr hu hor (λx hx=>(h3 x hx).1),λz hz=>?_,⟨by have:=k4.next;omega,λb hb=>(o5 b U).trans (k4.get b hb)⟩,U⟩
    .rw[hmo];split <;>omega
    .rcases List.mem_or_eq_of_mem_set hz with h | h
     .exact hu1 z h
     .have:=(h3 r (List.mem_of_getElem? hr)).1;omega
   refine⟨v,rfl,b,o,hA,U,_,e0,c,rfl,hcn,u,rd,λhu0=>⟨hcn,u,rd,b',o',hB,U,_,e1',λhe=>⟨U,_,e1',hcn,h5,s5,fin⟩,λhe=>absurd (hor.resolve_left U) he⟩,λhu0=>⟨b',o',hB,U,_,e1',hcn,h5,s5,fin⟩⟩
  .obtain rfl:v=i:=U;have hin:low.take v=low:=List.take_of_length_le U;rw[hin]at hm0 hm1⊢;obtain⟨q,hq⟩:∃q:Nat,aO low=q:=⟨(aO low).toNat,U⟩;refine⟨_,ae U U,q,U,?_⟩;rcases Nat.eq_zero_or_pos v with h0 | h0
   .subst h0;have hq0:q=0:=U;subst hq0;refine⟨_,_,_,(by kernel_rfl:am Tryz.prog 3 (ω ⟨h.next,0,η⟩) 0 (cx 0) η (ω 0) η=ω (Y (ω ⟨h.next,0,η⟩) 0 0)),Ak (F:=λ_=>True) (xs:=[]) ⟨rfl,.inr ⟨_,_,rfl⟩,λh=>absurd h (Nat.lt_irrefl _)⟩ U (λc y z h=>U) ⟨_,rfl,hK _ k4⟩⟩
   .obtain⟨K',hsl⟩:=G4 (n:=v) (g:=h.next) (k:=q) U h0;have hris:nQ up q:=by
     have:=(DW (up:=up) h1 h2 U (λa x y hx hy=>hup.here a x y (by have:=(List.getElem?_eq_some_iff.1 hx).1;omega) hx hy)).1 hne
     rwa [show(aO low).toNat=q by omega]at this
    have hsa:Sa cI (λb=>b=h.next) h4 (ω ⟨h.next,0,η⟩) q K' (up.take q):=by
     refine⟨by rw[List.length_take];omega,.inr ⟨_,_,rfl⟩,λ_=>⟨h.next,0,rfl,rfl,lt4,λk x hk=>?_⟩⟩;have hkl:=(List.getElem?_eq_some_iff.1 hk).1;rw[List.length_take]at hkl;rw[List.getElem?_take,if_pos U]at hk;refine⟨[ξ ψ x],λj u hu=>?_,rfl⟩
     match j,hu with
     | 0,hu=>
      obtain rfl:=Option.some.inj hu;show ldC h4 h.next (0+(k*1+0))=_;rw[aJ b4,Nat.mul_one,Nat.add_zero,Nat.zero_add,List.getElem?_map,hk];rfl
    refine⟨_,_,_,hsl,Ak hsa U (λc y z hc hy hz=>?_) ⟨_,rfl,hK _ k4⟩⟩;rw[List.getElem?_take,if_pos U]at hy hz;exact hris c y z hc hy hz
theorem qU {p:List (List Int)}{nv:Nat}(hs:Sa aM F h A n K p) (hp:aP nv p) (hK:∀h',Nw h h'->Q .nilIface h'):WC Tryz.prog 181 [ξ ψ nv,.agg #[Y A n K],Y η 0 0] h Q:=by
 have hn:=hs.len;have h6:=hp.few;have h1:=hp.some_;have hnv:=hp.nv_;refine uC λh1' e1 h2' e2=>?_;obtain⟨k1,g1,z1⟩:=aj e1;obtain⟨k2,g2,z2⟩:=aj e2;have k12:=k1.trans k2;refine⟨A,n,K,aa (k2.bk U g1) rfl,λh=>absurd h U,λ_=>⟨λh=>absurd h U,λ_=>⟨λh=>absurd h U,λ_=>⟨λh=>absurd h U,λ_=>⟨_,_,_,aa g2 rfl,λh=>absurd h (by decide),λ_=>⟨A,n,K,aa (k2.bk U g1) rfl,?_⟩⟩⟩⟩⟩⟩;refine⟨λm x h3=>∃i:Nat,x=i/\i<=n/\m=n - i/\Nw h2' h3,n,⟨0,rfl,Nat.zero_le _,rfl,Nw.refl _⟩,?_⟩;rintro m x h3 ⟨i,rfl,hi,hm,k3⟩;refine⟨λhlt=>?_,λhge=>hK h3 (k12.trans k3)⟩;have hs3:=hs.nw (k12.trans k3);obtain⟨b,o,A',n',K',row,hA,hF,hb,hr,e0,s0⟩:=hs3.row (k:=i) U;have hm:=List.mem_of_getElem? hr;have hrl:n' = nv:=by rw[<-s0.len];exact hp.rows _ hm
 subst hrl;have wi:IntKind.i64.wrap ((i:Int)+1)=((i+1:Nat):Int):=by rw[Int.natCast_succ];exact ae U U
 refine⟨i,rfl,b,o,hA,U,A',n',K',e0,λh21 e21=>?_⟩;obtain⟨h22,s22,k22,g22,z22⟩:=aD (vs:=[ξ ψ (i:Int)]) e21 rfl (by simp[flat]);refine⟨h22,s22,λ_=>HX (s0.nw k22) hnv (hp.inr _ hm) (hp.full _ hm) λA15 n15 K15 h23 k23=>⟨_,_,_,_,rfl,λ_=>⟨_,aa (k23.bk U g22) rfl,λhpos=>?_,λhz=>?_⟩,λh=>Bool.noConfusion h⟩,λh=>absurd rfl h⟩
 .have k323:=k3.trans (k22.trans k23);have hs23:=hs3.nw (k22.trans k23);obtain⟨b',o',A2,n2,K2,low,hA',-,-,hlo,e0',s0'⟩:=hs23.row (k:=i - 1) U;have hml:=List.mem_of_getElem? hlo;have hll:n2=n':=by rw[<-s0'.len];exact hp.rows _ hml
  subst hll;refine⟨A,n,K,aa ((k2.trans k323).bk U g1) rfl,_,aa (k23.bk U g22) rfl,_,ae U U,i - 1,U,b',o',hA',U,A2,n2,K2,e0',FZ s0' (s0.nw (k22.trans k23)) hnv (hp.inr _ hml) (hp.full _ hml) (hp.inr _ hm) (hp.nest (i - 1) low row hlo (by rw[show i - 1+1=i by omega];exact hr)) λh24 k24=>⟨_,rfl,λ_=>⟨_,_,_,aa ((k323.trans k24).bk U g2) rfl,λh=>absurd h (by decide),λ_=>⟨_,wi,n - (i+1),U,i+1,rfl,U,rfl,k323.trans k24⟩⟩,λh=>Bool.noConfusion h⟩⟩
 .have k323:=k3.trans (k22.trans k23);exact⟨_,_,_,aa (k323.bk U g2) rfl,λh=>absurd h (by decide),λ_=>⟨_,wi,n - (i+1),U,i+1,rfl,U,rfl,k323⟩⟩
end
end Eva
end
section
open Go Go.RowKit
def cS (N:ab) (p:List (List Int)) (k:Nat) (xs:List Nat) (s:Nat):List Nat:=if s % 2=0 then xs.filter (λa=>decide (aG p k (N.to a)=s / 2)) else xs.filter (λa=>decide (aG p k (N.fr a)=s / 2))
section
variable {N:ab}{p:List (List Int)}{k:Nat}
theorem yU (xs:List Nat) (a:Nat):upd (upd (cS N p k xs) (aG p k (N.to a)*2) (cS N p k xs (aG p k (N.to a)*2) ++ [a])) (aG p k (N.fr a)*2+1) (upd (cS N p k xs) (aG p k (N.to a)*2) (cS N p k xs (aG p k (N.to a)*2) ++ [a]) (aG p k (N.fr a)*2+1) ++ [a])=cS N p k (xs ++ [a]):=by
 funext s
 have hne:aG p k (N.fr a)*2+1≠aG p k (N.to a)*2:=U;unfold upd;rw[if_neg hne];by_cases h1:s=aG p k (N.fr a)*2+1
 .subst h1;rw[if_pos rfl];unfold cS;rw[if_neg U,if_neg U,List.filter_append];have:(aG p k (N.fr a)*2+1) / 2=aG p k (N.fr a):=U;simp[this]
 .rw[if_neg h1];by_cases h2:s=aG p k (N.to a)*2
  .subst h2;rw[if_pos rfl];unfold cS;rw[if_pos U,if_pos U,List.filter_append];have:(aG p k (N.to a)*2) / 2=aG p k (N.to a):=U;simp[this]
  .rw[if_neg h2];unfold cS;by_cases h3:s % 2=0
   .rw[if_pos h3,if_pos h3,List.filter_append];have:¬aG p k (N.to a)=s / 2:=U;simp[this]
   .rw[if_neg h3,if_neg h3,List.filter_append];have:¬aG p k (N.fr a)=s / 2:=U;simp[this]
theorem B3 (c:Nat):cS N p k (bU (N.crB p k) N.na) (c*2)=N.ins p k c:=by
 unfold cS;rw[if_pos U,show c*2 / 2=c by omega];unfold bU ab.ins bU;rw[List.filter_filter];apply List.filter_congr;intro a _;unfold ab.crB ab.insB;by_cases h1:aG p k (N.to a)=c
 .simp[h1]
 .simp[h1]
theorem yV (c:Nat):cS N p k (bU (N.crB p k) N.na) (c*2+1)=N.outs p k c:=by
 unfold cS;rw[if_neg U,show(c*2+1) / 2=c by omega];unfold bU ab.outs bU;rw[List.filter_filter];apply List.filter_congr;intro a _;unfold ab.crB ab.outsB;by_cases h1:aG p k (N.fr a)=c
 .simp[h1,eq_comm]
 .simp[h1]
theorem tw (xs:List Nat) (s:Nat):(cS N p k xs s).length<=xs.length:=by
 unfold cS
 split <;>exact List.length_filter_le _ _
end
namespace Eva
section
variable {h h':AH}{Fa F Fp:Nat->Prop}{g:Nat}{N:ab}{p:List (List Int)}{Q:Value->AH->Prop}{A:Option Addr}{n K:Nat}
theorem Ef {A:Option Addr}{n K:Nat}(h:bO (Y A n K)):bO (.agg #[Y A n K]):=by
 intro v hv;have hv':v = Y A n K:=by simpa using hv
 subst hv';cases A with
 | none=>trivial
 | some a=>exact h
theorem F4 (G:gS h Fa F g N) (hp:aP N.nv p) (hs:Sa aM Fp h A n K p)
  (hK:∀A' n' K' h',Sa (Rc.slice Rc.gate) (λb=>h.next<=b) h' A' n' K' ((List.range p.length).map λj=>N.gatesL p (j+1))->Nw h h'->Q (Y A' n' K') h'):WC Tryz.prog 197 [ν (ω ⟨g,0,η⟩),.agg #[Y A n K]] h Q:=by
 have hn:=hs.len;have h6:=hp.few;have hna:=G.few.2;have hnv:=G.few.1;refine Bx λh1 e1=>?_;obtain⟨k1,g1,z1⟩:=aj e1;have box:∀{h'},Nw h1 h'->aB h' h.next 0 1=ω [Y A n K]:=λa=>fK (aa (a.bk U g1) rfl);refine⟨A,n,K,box (Nw.refl _),DY (G.nw k1) ⟨_,rfl,box (Nw.refl _),Ef hs.eqok,qU (hs.nw k1) hp λh3 k3=>⟨η,rfl,λ_=>⟨A,n,K,aa (k3.bk U g1) rfl,U,λh4 e4=>?_⟩,λt u h=>by cases h⟩⟩⟩;obtain⟨k4,g4,z4⟩:=aj e4;rw[aQ]at g4;have k14:=k3.trans k4;have z1':=k14.next;have z3:=k3.next;refine⟨A,n,K,aa (k14.bk U g1) rfl,λm x h5=>∃(i:Nat) (B:Nat->Nat),x=i/\i<=n/\m=n - i/\Nw h1 h5/\h4.next<=h5.next/\
  Bk h5 h3.next ((List.range n).map λk=>if k<i then Value.slice (ω ⟨B k,0,η⟩) (au p (k+1)) (cx (au p (k+1))) else Y η 0 0) 261/\(∀k,k<i->Sa Rc.gate (λz=>h4.next<=z) h5 (ω ⟨B k,0,η⟩) (au p (k+1)) (cx (au p (k+1))) (N.gatesL p (k+1))),n,⟨0,λ_=>0,rfl,Nat.zero_le _,rfl,k14,Nat.le_refl _,?_,λk h=>absurd h U⟩,?_⟩
 .have e:(List.range n).map (λk=>if k<0 then Value.slice (ω ⟨0,0,η⟩) (au p (k+1)) (cx (au p (k+1))) else Y η 0 0)=List.replicate n (Y η 0 0):=by
   have:(λk=>if k<0 then Value.slice (ω ⟨0,0,η⟩) (au p (k+1)) (cx (au p (k+1))) else Value.slice η 0 0)=λ_=>Value.slice η 0 0:=by funext k;rw[if_neg U]
   rw[this,List.map_const',List.length_range]
  rw[e];exact g4
 rintro m x h5 ⟨i,B,rfl,hi,hm,k5,lt5,b5,sg5⟩;refine⟨λhlt=>?_,λhge=>?_⟩
 .have hs5:=hs.nw (k1.trans k5);obtain⟨b,o,A5,n5,K5,row,hA,hF,hbl,hr,e0,s5⟩:=hs5.row (k:=i) U;have wi:IntKind.i64.wrap ((i:Int)+1)=((i+1:Nat):Int):=by rw[Int.natCast_succ];exact ae U U
  have hr':p[i+1 - 1]? = ω row:=by rw[Nat.add_sub_cancel];exact hr
  obtain⟨hrl,hrx⟩:=eG hp hr';have hn5:n5=N.nv:=by rw[<-s5.len];exact hrl
  have hmf:=Af hp (k:=i+1) U U;refine⟨i,rfl,b,o,hA,U,A5,n5,K5,e0,A,n,K,box k5,_,wi,HU hp hs5 U U λh6 k6=>⟨_,rfl,au p (i+1),rfl,U,λh7 e7=>?_⟩⟩;obtain⟨k7,g7,z7⟩:=aj e7;rw[FT]at g7;have k57:=k6.trans k7;refine⟨A,n,K,box (k5.trans k57),_,wi,HV (G.nw ((k1.trans k5).trans k57)) hp (hs5.nw k57) U U λA8 n8 K8 h8 s8 k8=>⟨_,_,_,rfl,?_⟩⟩;obtain⟨xs,hxs⟩:∃xs,bU (N.crB p (i+1)) N.na=xs:=⟨_,rfl⟩;rw[hxs]at s8;have hx8:xs.length=n8:=by have:=s8.len;simpa[ints]using this
  have hxl:xs.length<=N.na:=by rw[<-hxs];exact aL _ _
  have k58:=k57.trans k8;have z6:=k6.next;have z8:=k8.next;have z5:=k5.next;have S8:ke h8 h8.next h6.next (au p (i+1)*2) 253 (cS N p (i+1) []):=by
   have e:cS N p (i+1) []=λ_=>[]:=by funext s;unfold cS;split <;>rfl
   rw[e];exact ke.new (k8.bk U g7) U
  refine⟨λm x h9=>∃j:Nat,x=j/\j<=n8/\m=n8 - j/\Nw h5 h9/\ke h9 h8.next h6.next (au p (i+1)*2) 253 (cS N p (i+1) (xs.take j))/\Sa cI (λz=>h7.next<=z/\z<h8.next) h9 A8 n8 K8 (ints xs),n8,⟨0,rfl,Nat.zero_le _,rfl,k58,by rw[List.take_zero];exact S8,s8.mono λz hz hlt=>⟨hz,hlt⟩⟩,?_⟩;rintro m' x h9 ⟨j,rfl,hj,hm',k9,S9,s9⟩;refine⟨λhlt'=>?_,λhge'=>?_⟩
  .obtain⟨b8,o8,y,hA8,-,-,hy,e8⟩:=s9.int (k:=j) U;obtain⟨a,ha,rfl⟩:∃a:Nat,xs[j]? = ω a/\y=(a:Int):=by
    unfold ints at hy;rw[List.getElem?_map]at hy;cases hv:xs[j]? with
    | none=>rw[hv]at hy;cases hy
    | some a=>rw[hv]at hy;exact⟨a,rfl,(Option.some.inj hy).symm⟩
   have han:a<N.na:=by
    have:=List.mem_of_getElem? ha;rw[<-hxs]at this;unfold bU at this;exact List.mem_range.1 (List.mem_filter.1 this).1
   have G9:=G.nw ((k1.trans k5).trans k9);have hto:=(ab.to_lt G.ok han).1;have hfr:=(ab.fr_lt G.ok han).1;have s59:=s5.nw k9;obtain⟨bt,ot,xt,hAt,-,-,hyt,et⟩:=s59.int (k:=N.to a) U;obtain⟨bf,of_,xf,hAf,-,-,hyf,ef⟩:=s59.int (k:=N.fr a) U;rw[hAt]at hAf;injection hAf with hAf;injection hAf with hA1 hA2;subst hA1 hA2;obtain⟨ut,hut,ut0,-⟩:=hrx _ hto;obtain⟨uf,huf,uf0,-⟩:=hrx _ hfr;rw[hyt]at hut;rw[hyf]at huf;obtain rfl:=Option.some.inj hut;obtain rfl:=Option.some.inj huf;have ct:xt=((aG p (i+1) (N.to a):Nat):Int):=by rw[eh hr' hyt];omega
   have cf:xf=((aG p (i+1) (N.fr a):Nat):Int):=by rw[eh hr' hyf];omega
   have ht1:=fu hp (k:=i+1) U U hto;have hf1:=fu hp (k:=i+1) U U hfr;have hsl1:=tw (N:=N) (p:=p) (k:=i+1) (xs.take j) (aG p (i+1) (N.to a)*2);have htl:(xs.take j).length<=xs.length:=by rw[List.length_take];omega
   have wj:IntKind.i64.wrap ((j:Int)+1)=((j+1:Nat):Int):=by rw[Int.natCast_succ];exact ae U U
   refine⟨j,rfl,b8,o8,hA8,U,_,e8,GX G9 han ⟨_,rfl,_,rfl,bt,ot,hAt,U,_,et,aG p (i+1) (N.to a),ct,ht1,wR G9 han ⟨_,rfl,by rw[<-ct];exact et,_,rfl,U,_,ef,aG p (i+1) (N.fr a),cf,hf1,?_⟩⟩⟩;obtain⟨A9,n9,K9,l9,H9⟩:=S9.app (s:=aG p (i+1) (N.to a)*2) U a U;refine⟨A9,n9,K9,l9,λh12 e12=>?_⟩;obtain⟨A10,n10,K10,h13,y13,h14,s14,S14,m14⟩:=H9 h12 e12;have z14:=m14.next;have z9:=k9.next;have hz2:(upd (cS N p (i+1) (xs.take j)) (aG p (i+1) (N.to a)*2) (cS N p (i+1) (xs.take j) (aG p (i+1) (N.to a)*2) ++ [a]) (aG p (i+1) (N.fr a)*2+1)).length<=100000:=by
    unfold upd;rw[if_neg U];have:=tw (N:=N) (p:=p) (k:=i+1) (xs.take j) (aG p (i+1) (N.fr a)*2+1);omega
   obtain⟨A11,n11,K11,l11,H11⟩:=S14.app (s:=aG p (i+1) (N.fr a)*2+1) U a hz2;refine⟨A10,n10,K10,h13,y13,h14,s14,A11,n11,K11,l11,λh15 e15=>?_⟩;obtain⟨A12,n12,K12,h16,y16,h17,s17,S17,m17⟩:=H11 h15 e15;rw[yU]at S17;have m917:Mt (λz=>z=h6.next\/h8.next<=z) h9 h17:=m14.then m17;have htk:xs.take (j+1)=xs.take j ++ [a]:=by rw[List.take_add_one,ha];rfl
   refine⟨A12,n12,K12,h16,y16,h17,s17,_,wj,n8 - (j+1),U,j+1,rfl,U,rfl,m917.is_nw k9 λz hz=>U,by rw[htk];exact S17,s9.off m917 λz hz h=>U⟩
  .obtain rfl:j=n8:=U;rw[List.take_of_length_le U]at S9;have z9:=k9.next;obtain⟨h18,s18,b18,z18,o18⟩:=ax (v:=Y (ω ⟨h6.next,0,η⟩) (au p (i+1)) (cx (au p (i+1)))) (k9.bk U b5) (o:=0+i) (by simp;omega) rfl;have m18:Mt (λz=>z=h3.next) h9 h18:=⟨U,λz _ hn=>o18 z hn⟩;have gt:=(S9.gates (K:=cx (au p (i+1))));have eg:((List.range (au p (i+1))).map λc=>(ints (cS N p (i+1) xs (c*2)),ints (cS N p (i+1) xs (c*2+1))))=N.gatesL p (i+1):=by
    unfold ab.gatesL;apply List.map_congr_left;intro c _;rw[<-hxs,B3,yV]
   rw[eg]at gt;have hs9:=S9.pos;refine⟨U,h18,s18,_,wi,n - (i+1),U,i+1,upd B i h6.next,rfl,U,rfl,m18.is_nw (k5.trans k9) λz hz=>U,U,?_,λk hk=>?_⟩
   .rw[Nat.zero_add,qQ U]at b18;have e:(λk=>if k<i+1 then Value.slice (ω ⟨upd B i h6.next k,0,η⟩) (au p (k+1)) (cx (au p (k+1))) else Y η 0 0)=upd (λk=>if k<i then Value.slice (ω ⟨B k,0,η⟩) (au p (k+1)) (cx (au p (k+1))) else Y η 0 0) i (Y (ω ⟨h6.next,0,η⟩) (au p (i+1)) (cx (au p (i+1)))):=by
     funext k
     unfold upd;by_cases e:k=i
     .subst e;rw[if_pos U,if_pos rfl,if_pos rfl]
     .rw[if_neg e,if_neg e];by_cases e2:k<i
      .simp only[if_pos e2,if_pos (show k<i+1 by omega)]
      .simp only[if_neg e2,if_neg (show ¬k<i+1 by omega)]
    rw[e];exact b18
   .unfold upd;by_cases e:k=i
    .subst e;rw[if_pos rfl];exact((gt.mono λz hz _=>(by omega:h4.next<=z)).off m18 λz hz e=>U)
    .rw[if_neg e];exact((sg5 k U).nw k9).off m18 λz hz e=>U
 .obtain rfl:i=n:=U;refine hK _ _ _ h5 (Sa.of_bk b5 (by simp[hn]) U U λk x hx=>?_) (k1.trans k5);have hk:k<i:=by have:=(List.getElem?_eq_some_iff.1 hx).1;simp at this;omega
  have hx':x=N.gatesL p (k+1):=by
   have hk':k<p.length:=U;simp[hk']at hx;exact hx.symm
  subst hx';refine⟨ω ⟨B k,0,η⟩,au p (k+1),cx (au p (k+1)),?_,(sg5 k hk).mono λz hz _=>U⟩;show((((List.range i).map λk=>if k<i then Value.slice (ω ⟨B k,0,η⟩) (au p (k+1)) (cx (au p (k+1))) else Y η 0 0).drop (k*1)).take 1)=_;rw[Nat.mul_one];exact du (by rw[List.getElem?_map,List.getElem?_range hk];simp[hk])
end
end Eva
end
section
open Go Go.RowKit
namespace Eva
structure LS (h0:AH) (C rb sb D db hb hp outs n Kr:Nat) (pre post:List Int) (done:Nat->Option Nat) (sum:Nat) (h:AH) (row:List Int) (q:Nat->Option Nat):Prop where
 nw:Nw h0 h
 lo:h0.next<=C/\h0.next<=rb/\h0.next<=sb/\h0.next<=D/\h0.next<=db/\h0.next<=hb
 lt:C<h.next/\rb<h.next/\sb<h.next/\D<h.next/\db<h.next/\hb<h.next
 ne:C≠rb/\C≠sb/\C≠D/\C≠db/\C≠hb
 cst:Bk h C ((pre ++ row ++ post).map (Value.int .i64)) 2
 len:row.length=outs
 rbx:Bk h rb [Y (ω ⟨C,pre.length,η⟩) outs Kr] 43
 sbx:Bk h sb [ξ ψ (sum:Int)] 2
 dbl:Bk h D (((List.range n).map λa=>(done a).isSome).map Value.bool) 4
 dbx:Bk h db [Y (ω ⟨D,0,η⟩) n (cx n)] 157
 hbx:Bk h hb [ν (ω ⟨hp,0,η⟩)] 133
 heap:∃S,bF h S hp n q/\(∀b,S b->h0.next+1<=b)/\¬S C/\¬S rb/\¬S sb/\¬S D/\¬S db/\¬S hb
section
variable {h0 h h':AH}{C rb sb D db hb hp outs n Kr:Nat}{pre post:List Int}{done:Nat->Option Nat}{sum:Nat}{row:List Int}{q:Nat->Option Nat}{Q:Value->AH->Prop}
theorem LS.next (L:LS h0 C rb sb D db hb hp outs n Kr pre post done sum h row q) (a:Nw h h'):LS h0 C rb sb D db hb hp outs n Kr pre post done sum h' row q:=by
 obtain⟨S,h1,h2⟩:=L.heap;obtain⟨l1,l2,l3,l4,l5,l6⟩:=L.lt;have:=a.next;exact⟨L.nw.trans a,L.lo,⟨U,U,U,U,U,U⟩,L.ne,a.bk l1 L.cst,L.len,a.bk l2 L.rbx,a.bk l3 L.sbx,a.bk l4 L.dbl,a.bk l5 L.dbx,a.bk l6 L.hbx,S,h1.nw a,h2⟩
theorem Eg {b k:Nat}{xs:List Bool}{x:Bool}{t:TypeId}(hb:Bk h b (xs.map Value.bool) t) (hx:xs[k]? = ω x):ldC h b (0+k)=ω (.bool x):=by
 rw[aJ hb,Nat.zero_add];simp[hx]
theorem H0 {l:List Int}{k:Nat}(hk:k<l.length):l[k]? = ω (at_ l k):=by
 unfold at_;rw[List.getElem?_eq_getElem hk];rfl
theorem Js {M:Nat}(L:LS h0 C rb sb D db hb hp outs n Kr pre post done sum h row q){s:cm}(hs:0<=s.2.2/\s.2.2<=M/\(s.2.1<0->0<=s.1/\s.1<n)/\s.2.1<outs) (hM:sum+M<=1152921504606846976) (hC:h0.next≠C)
  (hK:∀h',LS h0 C rb sb D db hb hp outs n Kr pre post done sum h' (fz done sum (row,q) s).1 (fz done sum (row,q) s).2->h'.get h0.next=h.get h0.next->Q (.tuple #[]) h') :
  WC Tryz.prog 205 [.agg #[ξ ψ s.1,ξ ψ s.2.1,ξ ψ s.2.2],ν (ω ⟨rb,0,η⟩),ν (ω ⟨sb,0,η⟩),ν (ω ⟨db,0,η⟩),ν (ω ⟨hb,0,η⟩)] h Q:=by
 obtain⟨s1,s2,s3⟩:=s;simp only at hs;obtain⟨c0,c1,ct,co⟩:=hs;have hlt0:h0.next<h.next:=by have:=L.lo;have:=L.lt;omega
 refine ji λh1 e1=>?_;obtain⟨k1,g1,z1⟩:=aj e1;have L1:=L.next k1;have y0:ldC h1 h.next 0=ω (ξ ψ s1):=aa g1 rfl;have y1:ldC h1 h.next 1=ω (ξ ψ s2):=aa g1 rfl;have y2:ldC h1 h.next 2=ω (ξ ψ s3):=aa g1 rfl;have r0:ldC h1 rb 0=ω (Y (ω ⟨C,pre.length,η⟩) outs Kr):=aa L1.rbx rfl;have t0:ldC h1 sb 0=ω (ξ ψ (sum:Int)):=aa L1.sbx rfl;have d0:ldC h1 db 0=ω (Y (ω ⟨D,0,η⟩) n (cx n)):=aa L1.dbx rfl;have p0:ldC h1 hb 0=ω (ν (ω ⟨hp,0,η⟩)):=aa L1.hbx rfl;have w1:IntKind.i64.wrap ((sum:Int)+s3)=(sum:Int)+s3:=ae U U;obtain⟨l1,l2,l3,l4,l5,l6⟩:=L1.lt;obtain⟨n1,n2,n3,n4,n5⟩:=L1.ne;refine⟨_,y1,λho=>?_,λho=>?_⟩
 .obtain⟨o,rfl⟩:=Int.eq_ofNat_of_zero_le ho;have hlt:o<outs:=U;have hrow:=L1.len;have x7:ldC h1 C (pre.length+o)=ω (ξ ψ (at_ row o)):=by
   rw[aJ L1.cst,List.map_append,List.map_append,List.append_assoc,List.getElem?_append_right (by simp),List.length_map,Nat.add_sub_cancel_left,List.getElem?_append_left (by simp;omega),List.getElem?_map,H0 U];rfl
  have hmin:(if((sum:Int)+s3)<at_ row o then(sum:Int)+s3 else at_ row o)=min (at_ row o) (sum+s3):=by
   rw[Int.min_def]
   split <;>split <;>omega
  obtain⟨h2,q1,q2,q3,q4⟩:=ax (v:=ξ ψ (min (at_ row o) (sum+s3))) L1.cst (o:=pre.length+o) (by simp;omega) rfl;refine⟨_,_,rfl,_,_,_,r0,_,y1,_,_,_,r0,_,y1,o,rfl,_,_,rfl,hlt,_,x7,_,_,rfl,_,t0,_,y2,_,w1,_,hmin,o,rfl,_,_,rfl,hlt,h2,q1,hK h2 ?_ ((q4 _ hC).trans (k1.get _ hlt0))⟩;have hst:fz done sum (row,q) ((s1,(o:Int),s3):cm)=(row.set o (min (at_ row o) (sum+s3)),q):=by
   rw[fz,if_pos (by exact Int.natCast_nonneg o)];rfl
  obtain⟨S,p1,p2,p3,p4⟩:=L1.heap;rw[hst];refine⟨⟨by have:=L1.nw.next;omega,λb hb=>(q4 b (by have:=L1.lo.1;omega)).trans (L1.nw.get b hb)⟩,L1.lo,⟨U,U,U,U,U,U⟩,L1.ne,?_,by simp[hrow],(q4 _ (Ne.symm n1)).trans L1.rbx,(q4 _ (Ne.symm n2)).trans L1.sbx,(q4 _ (Ne.symm n3)).trans L1.dbl,(q4 _ (Ne.symm n4)).trans L1.dbx,(q4 _ (Ne.symm n5)).trans L1.hbx,S,p1.off (S':=λb=>b=C) ⟨U,λb _ hb=>q4 b hb⟩ (λb hb e=>p3 (e ▸ hb)),p2,p3,p4⟩;rw[<-List.map_set]at q2;rw[List.append_assoc,List.set_append_right _ _ U,Nat.add_sub_cancel_left,List.set_append_left _ _ U,<-List.append_assoc]at q2;exact q2
 .obtain⟨ht0,ht1⟩:=ct U;obtain⟨r,rfl⟩:=Int.eq_ofNat_of_zero_le ht0;have hrn:r<n:=U;have hst:fz done sum (row,q) ((((r:Nat):Int),s2,s3):cm)=if done r=η then(row,iS q r (sum+s3.toNat)) else(row,q):=by
   rw[fz,if_neg ho];simp only[Int.toNat_natCast]
  have hd:ldC h1 D (0+r)=ω (.bool (done r).isSome):=Eg L1.dbl (by simp[hrn]);refine⟨_,_,rfl,_,_,_,d0,_,y0,r,rfl,_,_,rfl,hrn,_,hd,λhb=>?_,λhb=>?_⟩
  .refine hK h1 ?_ (k1.get _ hlt0);rw[hst,if_neg (by intro e;rw[e]at hb;cases hb)];exact L1
  .have hdn:done r=none:=by cases hdr:done r with | none=>rfl | some x=>rw[hdr]at hb;cases hb
   obtain⟨S,p1,p2,p3,p4,p5,p6,p7,p8⟩:=L1.heap;refine⟨_,_,rfl,_,p0,_,y0,_,_,rfl,_,t0,_,y2,_,w1,fSq p1 hrn U U λh2 S' H2 m2 g2=>⟨_,rfl,hK h2 ?_ ((m2.get _ U (λhs=>by have:=p2 _ hs;omega)).trans (k1.get _ hlt0))⟩⟩;rw[hst,if_pos hdn];have hz:((sum:Int)+s3).toNat=sum+s3.toNat:=U;rw[hz]at H2;have hm:=m2.next;have notS:∀{b},b<h1.next->¬S b->¬S' b:=λhb hn hs=>(g2 _ hs).elim hn (λh=>U);exact⟨⟨by have:=L1.nw.next;omega,λb hb=>(m2.get b (by have:=L1.nw.next;omega) (λhs=>by have:=p2 b hs;omega)).trans (L1.nw.get b hb)⟩,L1.lo,⟨U,U,U,U,U,U⟩,L1.ne,m2.bk l1 p3 L1.cst,L1.len,m2.bk l2 p4 L1.rbx,m2.bk l3 p5 L1.sbx,m2.bk l4 p6 L1.dbl,m2.bk l5 p7 L1.dbx,m2.bk l6 p8 L1.hbx,S',H2,λb hb=>(g2 b hb).elim (p2 b) (λh=>by have:=L.nw.next;omega),notS l1 p3,notS l2 p4,notS l3 p5,notS l4 p6,notS l5 p7,notS l6 p8⟩
end
def kX (h0:AH) (g:Nat) (fb:Array Value) (n:Nat) (steps:Nat->List cm):Prop:=
 bh Tryz.prog g=true/\∀a,a<n->∀(h:AH) (tg:Nat) (tfb:Array Value) (J:Nat->AH->Prop) (Q:Value->AH->Prop),(∀k h1,J k h1->Nw h0 h1)->(∀k h1 h2,J k h1->Nw h1 h2->J k h2)->bh Tryz.prog tg=true->
  (∀k s h1 (Q':Value->AH->Prop),J k h1->(steps a)[k]? = ω s->(∀h2,J (k+1) h2->Q' (.tuple #[]) h2)->WC Tryz.prog tg ([.agg #[ξ ψ s.1,ξ ψ s.2.1,ξ ψ s.2.2]] ++ tfb.toList) h1 Q')->
  J 0 h->(∀h',J (steps a).length h'->Q (.tuple #[]) h')->WC Tryz.prog g ([ξ ψ (a:Int),.func (.func tg) #[] tfb] ++ fb.toList) h Q
end Eva
end
section
open Go Go.RowKit
namespace Eva
theorem Am {P:Program}{e C n lo hi:Nat}(hT:∃i,P.info? e=ω i/\i.size=1) (h1:lo<=hi) (h2:hi<=n) (h3:lo<n\/lo=0):am P e (ω ⟨C,0,η⟩) n (cx n) (ω lo) (ω hi) η=ω (Y (ω ⟨C,lo,η⟩) (hi - lo) (cx (n - lo))):=by
 obtain⟨i,hi',hsz⟩:=hT;unfold am;rw[hi'];have hc2:(cx n) / 2=n:=by unfold cx;omega
 have hp:Nat.beq ((cx n) % 2) 0=true:=by
  have:(cx n) % 2=0:=by unfold cx;omega
  rw[this];rfl
 have hb1:Nat.ble hi ((cx n) / 2)=true:=Nat.ble_eq_true_of_le U;have hb0:Nat.ble lo hi=true:=Nat.ble_eq_true_of_le h1;show cond (Option.isNone (none:Option Nat) || Option.isSome (ω hi)) (bS i.size (ω ⟨C,0,η⟩) n (cx n) ((ω lo).getD 0) (ω hi) η) η=_;simp only[Option.isNone_none,Bool.true_or,cond_true,Option.getD_some];unfold bS;simp only[Option.getD_some,hb1,hb0,Bool.and_self,cond_true,hp];unfold mO og;rw[hc2,hsz,Nat.mul_one];rcases h3 with h3 | h3
 .have hne:Nat.beq n lo=false:=by
   cases hb:Nat.beq n lo with
   | false=>rfl
   | true=>have:=aq hb;omega
  rw[hne];simp only[cond_false,Option.map_some];unfold Addr.add
  split
  .rename_i h0;rw[h0]
  .simp
 .subst h3;cases Nat.beq n 0 <;>rfl
theorem Jt:tf Tryz.prog 2 1 8=true:=by kernel_rfl
structure Ju (h0:AH) (C rb D db hb hp outs n Kr:Nat) (pre post:List Int) (done:Nat->Option Nat) (h:AH) (row:List Int) (q:Nat->Option Nat):Prop where
 nw:Nw h0 h
 lo:h0.next<=C/\h0.next<=rb/\h0.next<=D/\h0.next<=db/\h0.next<=hb
 lt:C<h.next/\rb<h.next/\D<h.next/\db<h.next/\hb<h.next
 ne:C≠rb/\C≠D/\C≠db/\C≠hb/\D≠rb/\D≠db/\D≠hb
 cst:Bk h C ((pre ++ row ++ post).map (Value.int .i64)) 2
 len:row.length=outs
 rbx:Bk h rb [Y (ω ⟨C,pre.length,η⟩) outs Kr] 43
 dbl:Bk h D (((List.range n).map λa=>(done a).isSome).map Value.bool) 4
 dbx:Bk h db [Y (ω ⟨D,0,η⟩) n (cx n)] 157
 hbx:Bk h hb [ν (ω ⟨hp,0,η⟩)] 133
 heap:∃S,bF h S hp n q/\(∀b,S b->h0.next+1<=b)/\¬S C/\¬S rb/\¬S D/\¬S db/\¬S hb/\∀b,S b->b<h.next
def cntD (done:Nat->Option Nat) (n:Nat):Nat:=((List.range n).filter λa=>(done a).isSome).length
theorem vc (done:Nat->Option Nat) (n:Nat):cntD done n<=n:=Nat.le_trans (List.length_filter_le _ _) (by simp)
theorem cntD_upd {done:Nat->Option Nat}{k c:Nat}(hd:done k=η):∀n,k<n->cntD (upd done k (ω c)) n=cntD done n+1
 | 0,h=>U
 | n+1,h=>by
  unfold cntD;rw[List.range_succ,List.filter_append,List.filter_append,List.length_append,List.length_append];by_cases e:k=n
  .subst e;have h1:∀a∈List.range k,((upd done k (ω c)) a).isSome=(done a).isSome:=λa ha=>by
    have:a≠k:=by simp at ha;omega
    simp[upd,this]
   rw[List.filter_congr h1];simp[upd,hd]
  .have ih:=cntD_upd (c:=c) hd n U;unfold cntD at ih;rw[ih];have:(upd done k (ω c)) n=done n:=by simp[upd,Ne.symm e]
   simp only[List.filter_cons,List.filter_nil,this];omega
theorem An {done:Nat->Option Nat}{k:Nat}(hd:done k=η){n:Nat}(hk:k<n):cntD done n<n:=by
 have h1:=cntD_upd (c:=0) hd n hk;have h2:=vc (upd done k (ω 0)) n;omega
section
variable {h:AH}{Q:Value->AH->Prop}{F:Nat->Prop}{A:Option Addr}{m K g outs n M:Nat}{fb:Array Value}{starts:List Nat}{steps:Nat->List cm}
theorem Ju.keep1 {h0 h':AH}{C rb D db hb hp Kr:Nat}{pre post row:List Int}{done q:Nat->Option Nat}(L:Ju h0 C rb D db hb hp outs n Kr pre post done h row q) (a:Nw h h'):Ju h0 C rb D db hb hp outs n Kr pre post done h' row q:=by
 obtain⟨S,h1,h2,h3,h4,h5,h6,h7,h8⟩:=L.heap;obtain⟨l1,l2,l3,l4,l5⟩:=L.lt;have:=a.next;exact⟨L.nw.trans a,L.lo,⟨U,U,U,U,U⟩,L.ne,a.bk l1 L.cst,L.len,a.bk l2 L.rbx,a.bk l3 L.dbl,a.bk l4 L.dbx,a.bk l5 L.hbx,S,h1.nw a,h2,h3,h4,h5,h6,h7,λb hb=>by have:=h8 b hb;omega⟩
theorem H7 {q0 k c:Nat}{row:List Int}{done q:Nat->Option Nat}(hF:j9 n outs M steps) (hM:M*(n+1)<1152921504606846976)
  (hd:qE bl (eF steps) q0 done (jl bl q)) (hr:fA outs steps done row) (hf:IE M (cntD done n) q) (hk:q k=ω c) (hkn:k<n) (hm:∀b c',q b=ω c'->c<=c') :
  done k=η/\c+M<=1152921504606846976/\qE bl (eF steps) q0 (upd done k (ω c)) (jl bl (dT (upd done k (ω c)) c (steps k) (row,del q k)).2)/\fA outs steps (upd done k (ω c)) (dT (upd done k (ω c)) c (steps k) (row,del q k)).1/\
   IE M (cntD (upd done k (ω c)) n) (dT (upd done k (ω c)) c (steps k) (row,del q k)).2:=by
 have hcM:=hf k c hk;have hmul:M*cntD done n<=M*n:=Nat.mul_le_mul_left _ (vc _ _);have hmul2:M*(n+1)=M*n+M:=by rw[Nat.mul_succ]
 have hcI:c<bl:=by unfold bl;omega
 have hdn:done k=none:=(hd.wait k c (cH.2 ⟨hk,hcI⟩)).2.2;have hl:∀b y,(b,y)∈(fv (steps k)).map (λx=>(x.1,c+x.2))->y<=c+M:=λb y hb=>by
  obtain⟨⟨r,x⟩,hx,he⟩:=List.mem_map.1 hb;injection he with e1 e2;have:=(hF.inn k r x hkn hx).2;omega
 refine⟨hdn,U,?_,hr.round hF hkn hdn,?_⟩
 .rw[lZ _ _ k _ _ _ (λ_=>0)];refine hd.round hk hcI hm _ (λb x hb he hx hdb=>?_) (λb y hb hy=>?_)
  .exact List.mem_map.2 ⟨(b,x),uU he,rfl⟩
  .obtain⟨⟨r,x⟩,hx,he⟩:=List.mem_map.1 hb;injection he with e1 e2;subst e1;exact⟨x,hF.get hkn hx,e2.symm⟩
 .rw[lZ _ _ k _ _ _ (λ_=>0),cntD_upd hdn n hkn];exact hf.round hk hl
theorem B4 {done:Nat->Option Nat}{sum:Nat}{l:List cm}{k:Nat}{s:cm}(hs:l[k]? = ω s) (st:List Int×(Nat->Option Nat)):dT done sum (l.take (k+1)) st=fz done sum (dT done sum (l.take k) st) s:=by
 unfold dT;rw[List.take_add_one,hs,List.foldl_append];rfl
end
end Eva
end
section
open Go Go.RowKit
namespace Eva
theorem F5 (i T:Nat) (x y:Int) (hi:i<T):(List.replicate i x ++ List.replicate (T - i) y).set i x=List.replicate (i+1) x ++ List.replicate (T - (i+1)) y:=by
 rw[List.set_append_right _ _ (by simp),List.length_replicate,Nat.sub_self,show T - i=(T - (i+1))+1 by omega,List.replicate_succ,List.set_cons_zero,List.replicate_succ',List.append_assoc];rfl
theorem Aq {done:Nat->Option Nat}{k c n:Nat}(hk:k<n):((List.range n).map λa=>(done a).isSome).set k true=(List.range n).map λa=>(upd done k (ω c) a).isSome:=by
 apply List.ext_getElem?;intro i;rw[List.getElem?_set];by_cases e:k=i
 .subst e;simp[hk,upd]
 .simp only[if_neg e,List.getElem?_map];by_cases hi:i<n
  .simp[List.getElem?_range hi,upd,Ne.symm e]
  .rw[List.getElem?_eq_none (by simpa using hi)];rfl
theorem qV (st:Nat):jl bl (λb=>if b=st then ω 0 else η)=λb=>if b=st then ω 0 else none:=by
 funext b
 unfold jl;by_cases h:b=st
 .simp[h,bl]
 .simp[h]
structure LA (h0:AH) (C hb hp n outs m:Nat) (fl:List Value) (starts:List Nat) (steps:Nat->List cm) (i:Nat) (h:AH) (pre:List Int):Prop where
 nw:Nw h0 h
 cst:Bk h C ((pre ++ List.replicate ((m - i)*outs) aT).map (Value.int .i64)) 2
 len:pre.length=i*outs
 fld:Bk h h0.next fl 257
 hbx:Bk h hb [ν (ω ⟨hp,0,η⟩)] 133
 lt:h0.next<C/\C<hb/\hb<h.next
 heap:∃S q,bF h S hp n q/\(∀b,S b->h0.next+1<=b)/\¬S C/\¬S hb/\∀b,S b->b<h.next
 rows:∀j st,j<i->starts[j]? = ω st->sX outs steps st ((pre.drop (j*outs)).take outs)
section
variable {h:AH}{Q:Value->AH->Prop}{F:Nat->Prop}{A:Option Addr}{m K g outs n M:Nat}{fb:Array Value}{starts:List Nat}{steps:Nat->List cm}
theorem Eh (hst:Sa cI F h A m K (ints starts)) (hF:j9 n outs M steps) (hM:M*(n+1)<1152921504606846976) (hn:n<=16384) (hm:m<=16384) (hmo:m*outs<100000) (hs:∀s∈starts,s<n) (hN:kX h g fb n steps)
  (hK:∀(C:Nat) (costs:List Int) (h':AH),Bk h' C (costs.map (Value.int .i64)) 2->h.next<=C->C<h'.next->costs.length=m*outs->(∀i st,starts[i]? = ω st->sX outs steps st ((costs.drop (i*outs)).take outs))->Nw h h'->Q (Y (ω ⟨C,0,η⟩) (m*outs) (cx (m*outs))) h') :
  WC Tryz.prog 131 [.agg #[ξ ψ n,Y A m K,.func (.func g) #[] fb],ξ ψ outs] h Q:=by
 have hml:starts.length=m:=by simpa[ints]using hst.len
 obtain⟨T,hT⟩:∃T,m*outs=T:=⟨_,rfl⟩;refine kI λh1 e1=>?_;obtain⟨k1,g1,z1⟩:=aj e1;have y1:ldC h1 h.next 1=ω (Y A m K):=aa g1 rfl;have wmo:IntKind.i64.wrap ((m:Int)*(outs:Int))=(T:Int):=by rw[<-Int.natCast_mul,hT];exact ae U U
 refine⟨A,m,K,y1,_,wmo,T,rfl,U,λh2 e2=>?_⟩;obtain⟨k2,g2,z2⟩:=aj e2;rw[aQ]at g2;refine⟨λmm x h3=>∃i:Nat,x=i/\i<=T/\mm=T - i/\Bk h3 h1.next ((List.replicate i aT ++ List.replicate (T - i) 0).map (Value.int .i64)) 2/\h3.next=h2.next/\∀b,b≠h1.next->h3.get b=h2.get b,T,⟨0,rfl,Nat.zero_le _,rfl,by simpa using g2,rfl,λ_ _=>rfl⟩,?_⟩;rintro mm x h3 ⟨i,rfl,hi,rfl,b3,z3,o3⟩;refine⟨λhlt=>?_,λhge=>?_⟩
 .obtain⟨h4,s4,b4,z4,o4⟩:=da b3 (k:=i) (by simp;omega) aT;rw[F5 i T aT 0 U]at b4;exact⟨i,rfl,U,h4,s4,_,ae U U,T - (i+1),U,i+1,U,U,rfl,b4,U,λb hb=>(o4 b hb).trans (o3 b hb)⟩
 obtain rfl:T=i:=U;rw[Nat.sub_self,List.replicate_zero,List.append_nil]at b3;have f3:Bk h3 h.next [ξ ψ n,Y A m K,.func (.func g) #[] fb] 257:=(o3 _ U).trans (k2.bk U g1);have k3:Nw h h3:=⟨U,λb hb=>(o3 b U).trans ((k1.trans k2).get b hb)⟩;refine⟨_,aa f3 rfl,Jg n hn λh5 S5 hp H5 k5 hS5=>⟨_,rfl,λh6 e6=>?_⟩⟩;obtain⟨h7,s7,k7,g7,z7⟩:=aD (vs:=[ν (ω ⟨hp,0,η⟩)]) e6 rfl (by simp[flat]);have hz5:=k5.next;have hz7:=k7.next;have f7:=(k5.trans k7).bk U f3;refine⟨h7,s7,A,m,K,aa f7 rfl,λmm x h8=>∃(i:Nat) (pre:List Int),x=i/\i<=m/\mm=m - i/\LA h h1.next h5.next hp n outs m [ξ ψ n,Y A m K,.func (.func g) #[] fb] starts steps i h8 pre,m,⟨0,[],rfl,Nat.zero_le _,rfl,(k3.trans k5).trans k7,?_,by simp,f7,g7,U,⟨S5,_,H5.nw k7,λb hb=>by have:=hS5 b hb;omega,λhs=>by have:=hS5 _ hs;omega,λhs=>?_,λb hb=>?_⟩,λj st hj=>absurd hj (Nat.not_lt_zero _)⟩,?_⟩
 .have:=(k5.trans k7).bk U b3;simpa[hT]using this
 .obtain⟨row,costs,A',K',Bc,Bs,seats,-,-,-,q4⟩:=H5;have:=q4 _ hs;omega
 .obtain⟨row,costs,A',K',Bc,Bs,seats,-,-,-,q4⟩:=H5;have:=q4 _ hb;omega
 rintro mm x h8 ⟨i,pre,rfl,him,rfl,L⟩;refine⟨λhlt=>?_,λhge=>?_⟩
 rotate_left
 .obtain rfl:i=m:=U;have hc:=L.cst;rw[Nat.sub_self,Nat.zero_mul,List.replicate_zero,List.append_nil]at hc;have:=hK h1.next pre h8 hc U (by have:=L.lt;omega) L.len (λj st hj=>L.rows j st (by have:=(List.getElem?_eq_some_iff.1 hj).1;omega) hj) L.nw
  rwa [hT]at this
 have hil:i<m:=U;obtain⟨bA,oA,xs,rfl,-,hbA,hxs,exs⟩:=(hst.nw L.nw).int (k:=i) hil;obtain⟨st,hst1⟩:∃st,starts[i]? = ω st:=⟨_,List.getElem?_eq_getElem U⟩;have hxst:xs=(st:Int):=by simp[ints,hst1]at hxs;exact hxs.symm
 subst hxst;have hstn:=hs st (List.mem_of_getElem? hst1);obtain⟨lo,hlo⟩:∃lo,i*outs=lo:=⟨_,rfl⟩;have hhi:(i+1)*outs=lo+outs:=by rw[Nat.succ_mul,hlo]
 have hle:(i+1)*outs<=m*outs:=Nat.mul_le_mul_right _ hil;have wlo:IntKind.i64.wrap ((i:Int)*(outs:Int))=(lo:Int):=by rw[<-Int.natCast_mul,hlo];exact ae U U
 have whi:IntKind.i64.wrap (((i+1:Nat):Int)*(outs:Int))=((lo+outs:Nat):Int):=by rw[<-Int.natCast_mul,hhi];exact ae U U
 have hi1:IntKind.i64.wrap ((i:Int)+1)=((i+1:Nat):Int):=by rw[Int.natCast_succ];exact ae U U
 have hsl:=Am (P:=Tryz.prog) (e:=2) (C:=h1.next) (n:=T) (lo:=lo) (hi:=lo+outs) (by obtain⟨q,q1,q2,-⟩:=bg Jt;exact⟨q,q1,q2⟩) U U (by
  rcases Nat.eq_zero_or_pos outs with h0 | h0
  .right;rw[<-hlo,h0,Nat.mul_zero]
  .left;omega)
 rw[Nat.add_sub_cancel_left]at hsl;refine⟨i,rfl,bA,oA,rfl,hil,_,exs,_,wlo,_,hi1,_,whi,lo,rfl,lo+outs,rfl,_,_,_,hsl,λh9 e9=>?_⟩;obtain⟨h10,s10,k10,g10,z10⟩:=aD (vs:=[Y (ω ⟨h1.next,lo,η⟩) outs (cx (T - lo))]) e9 rfl (by simp[flat]);obtain⟨l1,l2,l3⟩:=L.lt;have f10:=k10.bk U L.fld;refine⟨h10,s10,_,aa f10 rfl,n,rfl,U,λh11 e11 h12 e12=>?_⟩;obtain⟨k11,g11,z11⟩:=aj e11;rw[aQ]at g11;obtain⟨h13,s13,k13,g13,z13⟩:=aD (vs:=[Y (ω ⟨h10.next,0,η⟩) n (cx n)]) e12 rfl (by simp[flat]);have k813:Nw h8 h13:=(k10.trans k11).trans k13;obtain⟨S8,q8,H8,hS1,hS2,hS3,hS4⟩:=L.heap;refine⟨h13,s13,_,aa (k813.bk U L.hbx) rfl,HT (H8.nw k813) λh14 H14 m14 z14=>⟨rfl,?_⟩⟩;have nS:∀{b},h8.next<=b->¬S8 b:=λhb hs=>by have:=hS4 _ hs;omega
 have hb14:Bk h14 h5.next [ν (ω ⟨hp,0,η⟩)] 133:=m14.bk U hS3 (k813.bk U L.hbx);refine⟨_,aa hb14 rfl,fSq H14 hstn (Int.le_refl _) U λh15 S15 H15 m15 g15=>⟨_,rfl,?_⟩⟩;have z15:=m15.next;have nS15:∀{b},b<h14.next->¬S8 b->¬S15 b:=λhb hn hs=>(g15 _ hs).elim hn (λh=>U);have mm15:Mt S8 h13 h15:=m14.trans m15 λb hb _=>hb;have hpl:pre.length=lo:=L.len.trans hlo;have hrep:List.replicate ((m - i)*outs) aT=List.replicate outs aT ++ List.replicate ((m - (i+1))*outs) aT:=by
  rw[List.replicate_append_replicate,show(m - i)*outs=outs+(m - (i+1))*outs from by rw[show m - i=(m - (i+1))+1 by omega,Nat.succ_mul,Nat.add_comm]]
 have f15:Bk h15 h.next [ξ ψ n,Y (ω ⟨bA,oA,η⟩) m K,.func (.func g) #[] fb] 257:=mm15.bk U (λhs=>by have:=hS1 _ hs;omega) (k813.bk U L.fld);have LL:Ju h h1.next h8.next h10.next h11.next h5.next hp outs n (cx (T - lo)) pre (List.replicate ((m - (i+1))*outs) aT) (λ_=>η) h15 (List.replicate outs aT) (λb=>if b=st then ω 0 else η):=by
  refine⟨⟨by have:=L.nw.next;omega,λb hb=>(mm15.get b U (λhs=>by have:=hS1 _ hs;omega)).trans ((k813.get b U).trans (L.nw.get b hb))⟩,U,U,U,?_,by simp,?_,?_,?_,m15.bk U hS3 hb14,⟨S15,H15,λb hb=>(g15 b hb).elim (hS1 b) (λh=>U),nS15 U hS2,nS15 U (nS U),nS15 U (nS U),nS15 U (nS U),nS15 U hS3,λb hb=>?_⟩⟩
  .have:=mm15.bk U hS2 (k813.bk U L.cst)
   rwa [hrep,<-List.append_assoc]at this
  .have:=mm15.bk U (nS U) ((k11.trans k13).bk U g10)
   rwa [hpl]
  .have:=mm15.bk U (nS U) (k13.bk U g11);have e:(List.range n).map (λa=>((λ_=>none:Nat->Option Nat) a).isSome)=List.replicate n false:=by
    show(List.range n).map (λ_=>false)=_;rw[List.map_const',List.length_range]
   rw[e,List.map_replicate];exact this
  .exact mm15.bk U (nS U) g13
  .rcases g15 b hb with h | h
   .have:=hS4 b h;omega
   .omega
 refine⟨λmm h16=>∃(done q:Nat->Option Nat) (row:List Int),mm=n - cntD done n/\Ju h h1.next h8.next h10.next h11.next h5.next hp outs n (cx (T - lo)) pre (List.replicate ((m - (i+1))*outs) aT) done h16 row q/\qE bl (eF steps) st done (jl bl q)/\fA outs steps done row/\IE M (cntD done n) q/\Bk h16 h.next [ξ ψ n,Y (ω ⟨bA,oA,η⟩) m K,.func (.func g) #[] fb] 257,n,⟨_,_,_,?_,LL,?_,fA.start _ _,λb c hb=>?_,f15⟩,?_⟩
 .have:cntD (λ_=>η) n=0:=by simp[cntD]
  rw[this];rfl
 .rw[qV];exact qE.new (by unfold bl;omega)
 .by_cases e:b=st
  .simp[e]at hb;omega
  .simp[e]at hb
 rintro mm h16 ⟨done,q,row,rfl,L16,hD,hR,hFw,f16⟩;obtain⟨S16,H16,c1,c2,c3,c4,c5,c6,c7⟩:=L16.heap;obtain⟨a1,a2,a3,a4,a5⟩:=L16.lt;obtain⟨n1,n2,n3,n4,n5,n6,n7⟩:=L16.ne;refine⟨_,aa L16.hbx rfl,Jh H16 (λhq=>?_) (λk c h17 hkN hqk hmin H17 m17 z17=>?_)⟩
 ·
  refine⟨_,_,_,rfl,λh=>Bool.noConfusion h,λ_ h22 e22=>?_⟩;obtain⟨h23,s23,k23,g23,z23⟩:=aD (vs:=[ξ ψ 0]) e22 rfl (by simp[flat]);have hq0:∀b,jl bl q b=none:=λb=>by unfold jl;rw[hq b]
  have hrow:=hR.done hD hq0;refine⟨h23,s23,_,hi1,m - (i+1),U,i+1,pre ++ row,rfl,hil,rfl,?_⟩;have L23:=L16.keep1 k23;refine⟨L23.nw,?_,by rw[List.length_append,hpl,L16.len,hhi],k23.bk U f16,L23.hbx,U,⟨S16,q,H16.nw k23,c1,c2,c6,λb hb=>by have:=c7 b hb;omega⟩,λj sj hj hsj=>?_⟩
  .have:=L23.cst;simpa only[List.append_assoc]using this
  .by_cases e:j=i
   .subst e;obtain rfl:st=sj:=Option.some.inj (hst1.symm.trans hsj);have e1:((pre ++ row).drop (j*outs)).take outs=row:=by
     rw[show j*outs=pre.length from hlo.trans hpl.symm,List.drop_left];exact List.take_of_length_le (Nat.le_of_eq L16.len)
    rw[e1];exact hrow
   .have h9:=L.rows j sj U hsj;have h10:(j+1)*outs<=i*outs:=Nat.mul_le_mul_right _ U;rw[Nat.succ_mul]at h10;rw[List.drop_append_of_le_length (by rw[hpl];omega),List.take_append_of_le_length (by rw[List.length_drop,hpl];omega)];exact h9
 ·
  refine⟨_,_,_,rfl,λ_ h18 e18=>?_,λh=>Bool.noConfusion h⟩;obtain⟨h19,s19,k19,g19,z19⟩:=aD (vs:=[ξ ψ c]) e18 rfl (by simp[flat]);obtain⟨r1,r2,r3,r4,r5⟩:=H7 hF hM hD hR hFw hqk hkN hmin;have d19:Bk h19 h11.next [Y (ω ⟨h10.next,0,η⟩) n (cx n)] 157:=k19.bk U (m17.bk a4 c5 L16.dbx);have D19:=k19.bk U (m17.bk a3 c4 L16.dbl);obtain⟨h20,s20,b20,z20,o20⟩:=ax (v:=.bool true) D19 (o:=0+k) (by simpa using hkN) rfl;rw[Nat.zero_add,<-List.map_set,Aq (c:=c) hkN]at b20;have f20:Bk h20 h.next [ξ ψ n,Y (ω ⟨bA,oA,η⟩) m K,.func (.func g) #[] fb] 257:=(o20 _ U).trans (k19.bk U (m17.bk U (λhs=>by have:=c1 _ hs;omega) f16));refine⟨h19,s19,_,_,_,aa d19 rfl,k,rfl,_,_,rfl,hkN,h20,s20,g,fb,aa f20 rfl,hN.1,?_⟩;have nw20:Nw h h20:=⟨by have:=L16.nw.next;omega,λb hb=>(o20 b U).trans ((k19.get b (by have:=L16.nw.next;omega)).trans ((m17.get b (by have:=L16.nw.next;omega) (λhs=>by have:=c1 _ hs;omega)).trans (L16.nw.get b hb)))⟩;have bk20:∀{b:Nat}{cs:List Value}{t:TypeId},b<h16.next->¬S16 b->b≠h10.next->Bk h16 b cs t->Bk h20 b cs t:=λhb hn hne hk=>(o20 _ hne).trans (k19.bk U (m17.bk hb hn hk));have LS20:LS h h1.next h8.next h17.next h10.next h11.next h5.next hp outs n (cx (T - lo)) pre (List.replicate ((m - (i+1))*outs) aT) (upd done k (ω c)) c h20 row (del q k):=by
   refine⟨nw20,by have:=L16.nw.next;omega,U,U,bk20 a1 c2 n2 L16.cst,L16.len,bk20 a2 c3 U L16.rbx,(o20 _ U).trans g19,b20,bk20 a4 c5 U L16.dbx,bk20 a5 c6 U L16.hbx,⟨S16,(H17.nw k19).off (S':=λb=>b=h10.next) ⟨U,λb _ hb=>o20 b hb⟩ (λb hb e=>c4 (e ▸ hb)),c1,c2,c3,λhs=>by have:=c7 _ hs;omega,c4,c5,c6⟩⟩
  refine hN.2 k hkN h20 205 #[ν (ω ⟨h8.next,0,η⟩),ν (ω ⟨h17.next,0,η⟩),ν (ω ⟨h11.next,0,η⟩),ν (ω ⟨h5.next,0,η⟩)]
   (λj h'=>LS h h1.next h8.next h17.next h10.next h11.next h5.next hp outs n (cx (T - lo)) pre (List.replicate ((m - (i+1))*outs) aT) (upd done k (ω c)) c h' (dT (upd done k (ω c)) c ((steps k).take j) (row,del q k)).1 (dT (upd done k (ω c)) c ((steps k).take j) (row,del q k)).2/\Bk h' h.next [ξ ψ n,Y (ω ⟨bA,oA,η⟩) m K,.func (.func g) #[] fb] 257) _
   (λj h' hj=>hj.1.nw) (λj h' h'' hj hw=>⟨hj.1.next hw,hw.bk (by have:=hj.1.nw.next;have:=hj.1.lt;have:=hj.1.lo;omega) hj.2⟩) (by kernel_rfl) (λj s h' Q' hj hsj hQ'=>?_) ⟨LS20,f20⟩ (λh21 hj=>⟨rfl,?_⟩)
  .exact Js hj.1 (hF.pos k s hkN (List.mem_of_getElem? hsj)) r2 U λh'' L'' g''=>hQ' h'' ⟨by rw[B4 hsj];exact L'',g''.trans hj.2⟩
  .obtain⟨L21,f21⟩:=hj;rw[List.take_length]at L21;obtain⟨S21,H21,u1,u2,u3,u4,u5,u6,u7⟩:=L21.heap;have hcl:=An r1 hkN;refine⟨n - cntD (upd done k (ω c)) n,by rw[cntD_upd r1 n hkN];omega,_,_,_,rfl,⟨L21.nw,by have:=L21.lo;omega,by have:=L21.lt;omega,U,L21.cst,L21.len,L21.rbx,L21.dbl,L21.dbx,L21.hbx,⟨S21,H21,?_,u2,u3,u5,u6,u7,?_⟩⟩,r3,r4,r5,f21⟩
   .exact u1
   .obtain⟨row',costs',A',K',Bc,Bs,seats,-,-,-,q4⟩:=H21;exact q4
end
end Eva
end
end Go.Proofs.YtaagdjkinbemcaaGreatDoor
