/-
Lemmas for TopEntries. No condition.
-/
import Derived.Test.YtaomlhopkfmheaaGreatDoorPk
import Derived.Test.YtaomlhopkfmheaaGreatDoorPh
import Derived.Test.YtaomlhopkfmheaaGreatDoorPe
import Derived.Test.YtaomlhopkfmheaaGreatDoorPf
import Derived.Test.YtaomlhopkfmheaaGreatDoorPi
import Derived.Test.YtaomlhopkfmheaaGreatDoorPj
namespace Go.Proofs.YtaomlhopkfmheaaGreatDoor
set_option linter.unusedVariables false
set_option linter.unusedSimpArgs false
set_option linter.unusedSectionVars false
set_option linter.unnecessarySimpa false
section
open Go Go.RowKit
namespace Eva
section
variable {h h':AH}{F G:Nat->Prop}{Q:Value->AH->Prop}{A Av Aa At Ap:Option Addr}{n K nv Kv na Ka nt Kt np Kp:Nat}{N:ab}{p:List (List Int)}{xs:List Int}
theorem wz (hs:Sa cI F h A n K xs) (hn:n<=1000000) (a:Int) (hK:Q (.int .i64 (if a∈xs then((xs.idxOf a:Nat):Int) else -1)) h):WC Tryz.prog 73 [.slice A n K,.int .i64 a] h Q:=by
 have hl:=hs.len
 refine qW ⟨λm x h1=>∃i:Nat,x=i/\i<=n/\m=n - i/\a ∉ xs.take i/\h1=h,n,⟨0,rfl,Nat.zero_le _,rfl,by simp,rfl⟩,?_⟩
 rintro m x h1 ⟨i,rfl,hi,rfl,hno,rfl⟩
 refine⟨λhlt=>?_,λhge=>?_⟩
 ·obtain⟨b,o,x,hA,-,-,hx,e0⟩:=hs.int (k:=i) (by omega)
  refine⟨i,rfl,b,o,hA,by omega,x,e0,λhe=>?_,λhne=>⟨_,wrS (by omega),n - (i+1),by omega,i+1,rfl,by omega,rfl,?_,rfl⟩⟩
  ·subst he
   have hm:=List.mem_of_getElem? hx
   rw[if_pos hm]at hK
   have hi':xs.idxOf x=i:=by
    have e:xs=xs.take i ++ x :: xs.drop (i+1):=by
     have e1:=List.drop_eq_getElem_cons (by omega:i<xs.length)
     rw[(List.getElem?_eq_some_iff.1 hx).2]at e1
     rw[<-e1,List.take_append_drop]
    rw[e,List.idxOf_append,if_neg hno]
    simp
    omega
   rw[hi']at hK
   exact hK
  ·rw[List.take_add_one,hx]
   simp only[Option.toList_some,List.mem_append,List.mem_singleton]
   rintro(h | h)
   ·exact hno h
   ·exact hne h.symm
 ·rw[List.take_of_length_le (by omega)]at hno
  rw[if_neg hno]at hK
  exact hK
theorem rD (Z:cz h F Av nv Kv Aa na Ka At nt Kt N){x:Int}(hK:∀(y:Bool) h',Nw h h'->(y=true↔0<=x/\x<N.na)->Q (.bool y) h'):WC Tryz.prog 28 [.agg #[.slice Av nv Kv,.slice Aa na Ka,.slice At nt Kt],.int .i64 x] h Q:=by
 have la:N.na=na:=Z.xa.len
 refine qY λh1 e1=>?_
 obtain⟨k1,g1,z1⟩:=aj e1
 refine⟨λh0=>⟨_,_,_,aa g1 rfl,λhlt=>hK true h1 k1 ⟨λ_=>⟨h0,by omega⟩,λ_=>rfl⟩,λhge=>hK false h1 k1 ⟨λh=>Bool.noConfusion h,λh=>absurd h.2 (by omega)⟩⟩,λhn=>hK false h1 k1 ⟨λh=>Bool.noConfusion h,λh=>absurd h.1 hn⟩⟩
theorem Ek (Z:cz h F Av nv Kv Aa na Ka At nt Kt N) (ok:N.Ok) (hna:N.na<=1000){v:Nat}(hK:∀A' K' h',Sa cI (λz=>h.next<=z) h' A' (ends N.xa N.na (false,v)).length K' (ends N.xa N.na (false,v))->Nw h h'->Q (.slice A' (ends N.xa N.na (false,v)).length K') h') :
  WC Tryz.prog 74 [.agg #[.slice Av nv Kv,.slice Aa na Ka,.slice At nt Kt],.int .i64 v] h Q:=by
 have la:N.na=na:=Z.xa.len
 refine uE λh1 e1=>?_
 obtain⟨k1,g1,z1⟩:=aj e1
 refine⟨λm A4 n4 K4 x h4=>∃i:Nat,x=i/\i<=N.na/\m=N.na - i/\n4=(ends N.xa i (false,v)).length/\al cI h4 (af A4) 3 A4 n4 K4 (ends N.xa i (false,v))/\(∀z,af A4 z->h1.next<=z)/\Nw h1 h4,N.na,⟨0,rfl,Nat.zero_le _,rfl,rfl,al.nil _ _ _ _,λz hz=>hz.elim,Nw.refl _⟩,?_⟩
 rintro m A4 n4 K4 x h4 ⟨i,rfl,hi,hm,rfl,o4,lo4,k4⟩
 have bA:∀{h'},Nw h4 h'->ldC h' h.next 1=some (.slice Aa na Ka):=λa=>aa ((k4.trans a).bk (by omega) g1) rfl
 have z4:=k4.next
 refine⟨_,_,_,bA (Nw.refl _),λhlt=>?_,λhge=>?_⟩
 ·have ht:=ab.to_lt ok (a:=i) (by omega)
  obtain⟨b6,o6,u,v',w,hA6,-,-,hu,f0,f1,-⟩:=(Z.nw (k1.trans k4)).xa.tri (k:=i) (by omega)
  have hel:=fD N.xa i (false,v)
  have hit_:hit N.xa false v i=(v' == (v:Int)):=by unfold hit;rw[hu];rfl
  refine⟨_,_,_,bA (Nw.refl _),i,rfl,b6,o6,hA6,by omega,_,f1,λhe=>?_,λhne=>?_⟩
  ·have es:ends N.xa (i+1) (false,v)=ends N.xa i (false,v) ++ [(i:Int)]:=by rw[fC,if_pos (by rw[hit_];simpa using he)]
   refine λh5 e5=>?_
   obtain⟨k5,g5,z5⟩:=aj e5
   obtain⟨A6,K6,h6,y1,y2,y3,y4⟩:=aX (r:=cI) (c9 _) dK (o4.nw k5) (Sz.one (r:=cI) (L:=2) (x:=(i:Int)) (F:=λz=>z=h4.next) g5 rfl (by omega) rfl rfl) (by omega) (by omega)
   rw[<-es]at y2
   refine⟨A6,_,K6,h6,y1,_,wrS (by omega),N.na - (i+1),by omega,i+1,rfl,by omega,rfl,by rw[es];simp,y2,λz hz=>(y4 z hz).elim (lo4 z) (λh=>by omega),y3.is_nw (k4.trans k5) lo4⟩
  ·have es:ends N.xa (i+1) (false,v)=ends N.xa i (false,v):=by rw[fC,if_neg (by rw[hit_];simpa using hne)]
   exact⟨_,wrS (by omega),N.na - (i+1),by omega,i+1,rfl,by omega,rfl,by rw[es],by rw[es];exact o4,lo4,k4⟩
 ·obtain rfl:i=N.na:=by omega
  exact hK A4 K4 h4 (o4.sa.mono λz hz _=>by have:=lo4 z hz;omega) (k1.trans k4)
theorem Di (Z:cz h F Av nv Kv Aa na Ka At nt Kt N) (ok:N.Ok) (hna:N.na<=1000){v:Nat}(hK:∀A' K' h',Sa cI (λz=>h.next<=z) h' A' (ends N.xa N.na (true,v)).length K' (ends N.xa N.na (true,v))->Nw h h'->Q (.slice A' (ends N.xa N.na (true,v)).length K') h') :
  WC Tryz.prog 75 [.agg #[.slice Av nv Kv,.slice Aa na Ka,.slice At nt Kt],.int .i64 v] h Q:=by
 have la:N.na=na:=Z.xa.len
 refine sT λh1 e1=>?_
 obtain⟨k1,g1,z1⟩:=aj e1
 refine⟨λm A4 n4 K4 x h4=>∃i:Nat,x=i/\i<=N.na/\m=N.na - i/\n4=(ends N.xa i (true,v)).length/\al cI h4 (af A4) 3 A4 n4 K4 (ends N.xa i (true,v))/\(∀z,af A4 z->h1.next<=z)/\Nw h1 h4,N.na,⟨0,rfl,Nat.zero_le _,rfl,rfl,al.nil _ _ _ _,λz hz=>hz.elim,Nw.refl _⟩,?_⟩
 rintro m A4 n4 K4 x h4 ⟨i,rfl,hi,hm,rfl,o4,lo4,k4⟩
 have bA:∀{h'},Nw h4 h'->ldC h' h.next 1=some (.slice Aa na Ka):=λa=>aa ((k4.trans a).bk (by omega) g1) rfl
 have z4:=k4.next
 refine⟨_,_,_,bA (Nw.refl _),λhlt=>?_,λhge=>?_⟩
 ·obtain⟨b6,o6,u,v',w,hA6,-,-,hu,f0,f1,-⟩:=(Z.nw (k1.trans k4)).xa.tri (k:=i) (by omega)
  have hel:=fD N.xa i (true,v)
  have hit_:hit N.xa true v i=(u == (v:Int)):=by unfold hit;rw[hu];rfl
  refine⟨_,_,_,bA (Nw.refl _),i,rfl,b6,o6,hA6,by omega,_,f0,λhe=>?_,λhne=>?_⟩
  ·have es:ends N.xa (i+1) (true,v)=ends N.xa i (true,v) ++ [(i:Int)]:=by rw[fC,if_pos (by rw[hit_];simpa using he)]
   refine λh5 e5=>?_
   obtain⟨k5,g5,z5⟩:=aj e5
   obtain⟨A6,K6,h6,y1,y2,y3,y4⟩:=aX (r:=cI) (c9 _) dK (o4.nw k5) (Sz.one (r:=cI) (L:=2) (x:=(i:Int)) (F:=λz=>z=h4.next) g5 rfl (by omega) rfl rfl) (by omega) (by omega)
   rw[<-es]at y2
   refine⟨A6,_,K6,h6,y1,_,wrS (by omega),N.na - (i+1),by omega,i+1,rfl,by omega,rfl,by rw[es];simp,y2,λz hz=>(y4 z hz).elim (lo4 z) (λh=>by omega),y3.is_nw (k4.trans k5) lo4⟩
  ·have es:ends N.xa (i+1) (true,v)=ends N.xa i (true,v):=by rw[fC,if_neg (by rw[hit_];simpa using hne)]
   exact⟨_,wrS (by omega),N.na - (i+1),by omega,i+1,rfl,by omega,rfl,by rw[es],by rw[es];exact o4,lo4,k4⟩
 ·obtain rfl:i=N.na:=by omega
  exact hK A4 K4 h4 (o4.sa.mono λz hz _=>by have:=lo4 z hz;omega) (k1.trans k4)
theorem Ad {t:Tab}(hs:Sz cI F h A n K t.2.2) (ht:cg t.1 t.2.1 t.2.2){i o:Nat}(hK:∀h',Nw h h'->Q (.int .i64 (df t i o)) h') :
  WC Tryz.prog 72 [.agg #[.int .i64 t.1,.int .i64 t.2.1,.slice A n K],.int .i64 i,.int .i64 o] h Q:=by
 have ln:=hs.len
 obtain⟨⟨i0,i1⟩,⟨q0,q1⟩,tl,-⟩:=id ht
 obtain⟨I,hI⟩:=Int.eq_ofNat_of_zero_le i0
 obtain⟨O,hO⟩:=Int.eq_ofNat_of_zero_le q0
 have tl':n=I*O:=by rw[hI,hO,<-Int.natCast_mul]at tl;omega
 refine oV λh1 e1=>?_
 obtain⟨k1,g1,z1⟩:=aj e1
 have far:¬((i:Int)<t.1/\(o:Int)<t.2.1)->df t i o=INF:=λhn=>by unfold df;rw[if_neg hn]
 have no:¬((i:Int)<t.1/\(o:Int)<t.2.1)->Q (.int .i64 1152921504606846976) h1:=λhn=>by have:=hK h1 k1;rw[far hn]at this;exact this
 refine⟨λh=>absurd h (by omega),λ_=>⟨_,aa g1 rfl,λhge=>no (by omega),λhlt=>⟨λh=>absurd h (by omega),λ_=>⟨_,aa g1 rfl,λhge=>no (by omega),λhlt2=>?_⟩⟩⟩⟩
 have hiI:i<I:=by omega
 have hoO:o<O:=by omega
 have hmul:(i+1)*O<=I*O:=Nat.mul_le_mul_right _ hiI
 rw[Nat.succ_mul]at hmul
 have hIO:I*O<=16*16:=Nat.mul_le_mul (by omega) (by omega)
 obtain⟨b',o',y,hA,-,-,hy,e0⟩:=(hs.nw k1).int (k:=i*O+o) (by omega)
 have w1:IntKind.i64.wrap ((i:Int)*t.2.1)=((i*O:Nat):Int):=by rw[hO,<-Int.natCast_mul];exact ah (by omega) (by omega)
 have w2:IntKind.i64.wrap (((i*O:Nat):Int)+(o:Int))=((i*O+o:Nat):Int):=by rw[Int.natCast_add];exact ah (by omega) (by omega)
 have hv:df t i o=y:=by
  unfold df
  rw[if_pos ⟨by omega,by omega⟩,show t.2.1.toNat=O by omega,hy];rfl
 rw[hv]at hK
 exact⟨_,_,_,aa g1 rfl,_,aa g1 rfl,_,w1,_,w2,i*O+o,rfl,b',o',hA,by omega,_,e0,hK h1 k1⟩
theorem Dj (Z:cz h F Av nv Kv Aa na Ka At nt Kt N) (ok:N.Ok) (hna:N.na<=1000){a b:Nat}(ha:a<N.na) (hb:b<N.na) (hK:∀h',Nw h h'->Q (.int .i64 (N.turn a b)) h') :
  WC Tryz.prog 29 [.agg #[.slice Av nv Kv,.slice Aa na Ka,.slice At nt Kt],.int .i64 a,.int .i64 b] h Q:=by
 have la:N.na=na:=Z.xa.len
 have lv:N.nv=nv:=Z.vs.len
 have lt:N.ts.length=nt:=Z.ts.len
 refine sS λh1 e1=>?_
 obtain⟨k1,g1,z1⟩:=aj e1
 have c0:∀{h'},Nw h1 h'->ldC h' h.next 0=some (.slice Av nv Kv):=λa=>aa (a.bk (by omega) g1) rfl
 have c1:∀{h'},Nw h1 h'->ldC h' h.next 1=some (.slice Aa na Ka):=λa=>aa (a.bk (by omega) g1) rfl
 have c2:∀{h'},Nw h1 h'->ldC h' h.next 2=some (.slice At nt Kt):=λa=>aa (a.bk (by omega) g1) rfl
 have bN:∀{h'},Nw h1 h'->ldN h' h.next 0 3=some [.slice Av nv Kv,.slice Aa na Ka,.slice At nt Kt]:=λa=>aG (c0 a) (c1 a) (c2 a)
 refine⟨_,_,_,_,_,_,_,_,_,bN (Nw.refl _),rD (Z.nw k1) λy h2 k2 hy=>⟨y,rfl,λ_=>?_,λhf=>absurd (hy.2 ⟨by omega,by omega⟩) (by rw[hf];exact λh=>Bool.noConfusion h)⟩⟩
 have k12:=k1.trans k2
 refine⟨_,_,_,_,_,_,_,_,_,bN k2,rD (Z.nw k12) λy h3 k3 hy=>⟨y,rfl,λ_=>?_,λhf=>absurd (hy.2 ⟨by omega,by omega⟩) (by rw[hf];exact λh=>Bool.noConfusion h)⟩⟩
 have k23:=k2.trans k3
 have k13:=k12.trans k3
 have hta:=ab.to_lt ok ha
 have hfb:=ab.fr_lt ok hb
 obtain⟨b6,o6,u,v,w,hA6,-,hl6,hu,-,f1,-⟩:=(Z.nw k13).xa.tri (k:=a) (by omega)
 have harc:N.arc a=(u,v,w):=by unfold ab.arc;rw[hu];rfl
 have hv':v=(N.to a:Int):=by have:=hta.2;rw[harc]at this;exact this
 subst hv'
 obtain⟨b7,o7,u2,v2,w2,hA7,-,-,hu2,f0,-,-⟩:=(Z.nw k13).xa.tri (k:=b) (by omega)
 have harc2:N.arc b=(u2,v2,w2):=by unfold ab.arc;rw[hu2];rfl
 have hu2':u2=(N.fr b:Int):=by have:=hfb.2;rw[harc2]at this;exact this
 subst hu2'
 refine⟨_,_,_,c1 k23,a,rfl,b6,o6,hA6,by omega,_,f1,_,_,_,c1 k23,b,rfl,b7,o7,hA7,by omega,_,f0,λhe=>?_,λhne=>?_⟩
 ·have hab:N.to a=N.fr b:=by omega
  obtain⟨htk,t,x,g1',g2',g3',g4',g5'⟩:=ab.tab_ok ok hta.1
  obtain⟨ty,hty⟩:=Int.eq_ofNat_of_zero_le g4'
  obtain⟨b8,o8,u3,v3,w3,hA8,-,hl8,hu3,-,-,f2⟩:=(Z.nw k13).vs.tri (k:=N.to a) (by have:=hta.1;omega)
  have hx3:x=(u3,v3,w3):=Option.some.inj (g1'.symm.trans hu3)
  subst hx3
  simp only at hty g2' g4' g5'
  subst hty
  obtain⟨b9,o9,p',q',A',n',K',zs,hA9,hF9,hl9,htt,t0,t1,t2,sz⟩:=(Z.old.nw k13).ts.tableZ (k:=ty) (by omega)
  have h9:N.ts[ty]? = some t:=by simpa using g2'
  have hzt:N.tab (N.to a)=(p',q',zs):=g3'.symm.trans (Option.some.inj (h9.symm.trans htt))
  refine⟨_,_,_,c1 k23,b6,o6,hA6,by omega,_,f1,_,_,_,c2 k23,_,_,_,c0 k23,N.to a,rfl,b8,o8,hA8,by have:=hta.1;omega,_,f2,ty,rfl,b9,o9,hA9,by omega,_,_,_,_,_,aG t0 t1 t2,_,_,_,_,_,_,_,_,_,bN k23,_,_,_,_,_,_,_,_,_,bN k23,?_⟩
  refine Ek (Z.nw k13) ok hna λA22 K22 h4 s4 k4=>⟨_,_,_,rfl,?_⟩
  have k34:=k23.trans k4
  have EA:aZ (.agg #[.slice Av nv Kv,.slice Aa na Ka,.slice At nt Kt]):=ww (tG _ _ _ _) (tG _ _ _ _) (tG _ _ _ _)
  have ET:aZ (.agg #[.int .i64 p',.int .i64 q',.slice A' n' K']):=ww trivial trivial (tG _ _ _ _)
  have d4:∀{h'},Nw h3 h'->ldN h' b9 (o9+ty*3) 3=some [.int .i64 p',.int .i64 q',.slice A' n' K']:=λa=>aG ((a.ldC hl9 _).trans t0) ((a.ldC hl9 _).trans t1) ((a.ldC hl9 _).trans t2)
  have d2:∀{h'},Nw h3 h'->ldC h' b8 (o8+N.to a*3+2)=some (.int .i64 (ty:Int)):=λa=>(a.ldC hl8 _).trans f2
  subst hA8 hA9
  have le1:=fD N.xa N.na (false,N.to a)
  have le2:=fD N.xa N.na (true,N.to a)
  refine⟨bN k34,EA,d4 k4,ET,d2 k4,c0 k34,c2 k34,wz s4 (by omega) a ?_⟩
  rw[if_pos (iG.2 ⟨ha,zi ha ok⟩)]
  refine⟨_,rfl,bN k34,EA,d4 k4,ET,d2 k4,c0 k34,c2 k34,Di (Z.nw (k13.trans k4)) ok hna λA23 K23 h6 s6 k6=>⟨_,_,_,rfl,?_⟩⟩
  have k46:=k34.trans k6
  have k36:=k4.trans k6
  refine⟨d4 k36,ET,d2 k36,c0 k46,c2 k46,wz s6 (by omega) b ?_⟩
  rw[if_pos (iG.2 ⟨hb,by rw[hab];exact zj hb ok⟩)]
  refine⟨_,rfl,d4 k36,ET,d2 k36,c0 k46,c2 k46,?_⟩
  have htk':cg p' q' zs:=by rw[hzt]at htk;exact htk
  refine Ad (t:=(p',q',zs)) (sz.nw k36) htk' λh8 k8=>⟨_,rfl,?_⟩
  have:=hK h8 ((k13.trans k36).trans k8)
  rw[Bd ok ha hb hab,hzt]at this
  exact this
 ·have:=hK h3 k13
  rw[ab.turn,if_neg (λh=>hne (by rw[h.2.2]))]at this
  exact this
end
end Eva
end
section
open Go Go.RowKit
namespace Eva
section
variable {h h':AH}{F Fl:Nat->Prop}{Q:Value->AH->Prop}{A Av Aa At:Option Addr}{n K nv Kv na Ka nt Kt:Nat}{N:ab}{xs:List Chg}
theorem Dk (Z0:cz h F Av nv Kv Aa na Ka At nt Kt N){x:Chg}(hK:∀(e:Int) h',Nw h h'->(e=0↔dJ N x)->Q (.int .i64 e) h') :
  WC Tryz.prog 70 [.agg #[.slice Av nv Kv,.slice Aa na Ka,.slice At nt Kt],.agg #[.int .i64 x.1,.int .i64 x.2.1,.int .i64 x.2.2.1,.int .i64 x.2.2.2.1,.int .i64 x.2.2.2.2]] h Q:=by
 have Z:=Z0.old
 have la:N.na=na:=Z.xa.len
 have lt:N.ts.length=nt:=Z.ts.len
 obtain⟨kd,at_,ci,co,w⟩:=x
 refine sR λh1 e1 h2 e2=>?_
 obtain⟨k1,g1,z1⟩:=aj e1
 obtain⟨k2,g2,z2⟩:=aj e2
 have k12:=k1.trans k2
 have g12:=k2.bk (by omega) g1
 have q:∀{h'}(a:Nw h2 h'){j v},[Value.int .i64 kd,.int .i64 at_,.int .i64 ci,.int .i64 co,.int .i64 w][j]? = some v->ldC h' h1.next j=some v:=fun {h'} a {j v} hj=>aa (a.bk (by omega) g2) hj
 have t2:ldC h2 h.next 2=some (.slice At nt Kt):=aa g12 rfl
 have bN:ldN h2 h.next 0 3=some [.slice Av nv Kv,.slice Aa na Ka,.slice At nt Kt]:=aG (aa g12 rfl) (aa g12 rfl) t2
 have bad:∀(e:Int) h',Nw h h'->e≠0->¬dJ N (kd,at_,ci,co,w)->Q (.int .i64 e) h':=λe h' k he hn=>hK e h' k ⟨λh=>absurd h he,λB=>absurd B hn⟩
 refine⟨kd,q (Nw.refl _) (j:=0) rfl,λc1=>?_,λc1=>⟨λc2=>?_,λc2=>bad 1 h2 k12 (by omega) λB=>B.is.elim (λh=>c1 h.1) (λh=>c2 h.1)⟩⟩
 ·subst c1
  have no:∀{e:Int}{h'},Nw h h'->e≠0->¬(0<=at_/\at_<N.na/\ci=0/\co=0)->Q (.int .i64 e) h':=fun {e h'} k he hn=>bad e h' k he λB=>B.is.elim (λh=>hn h.2) (λh=>absurd (show(1:Int)=2 from h.1) (by omega))
  refine⟨ci,q (Nw.refl _) (j:=2) rfl,λc2=>⟨co,q (Nw.refl _) (j:=3) rfl,λc3=>⟨_,_,_,_,_,_,_,_,_,bN,at_,q (Nw.refl _) (j:=1) rfl,rD (Z.nw k12) λy h3 k3 hy=>⟨y,rfl,λhy1=>⟨w,q k3 (j:=4) rfl,gq ⟨_,rfl,λhw=>?_,λhw=>?_⟩⟩,λhy0=>no (k12.trans k3) (by omega) λhn=>?_⟩⟩,λc3=>no k12 (by omega) λh=>c3 h.2.2.2⟩,λc2=>no k12 (by omega) λh=>c2 h.2.2.1⟩
  ·have:=hy.1 hy1
   exact hK 0 h3 (k12.trans k3) ⟨λ_=>⟨hw,.inl ⟨rfl,this.1,this.2,c2,c3⟩⟩,λ_=>rfl⟩
  ·exact bad 8 h3 (k12.trans k3) (by omega) λB=>by have hb:=B.w;simp only at hb;rw[hb]at hw;cases hw
  ·rw[hy.2 ⟨hn.1,hn.2.1⟩]at hy0;cases hy0
 ·subst c2
  have no:∀{e:Int},e≠0->¬N.isTurn (2,at_,ci,co,w)->Q (.int .i64 e) h2:=fun {e} he hn=>bad e h2 k12 he λB=>B.is.elim (λh=>absurd (show(2:Int)=1 from h.1) (by omega)) (λh=>hn h.2)
  refine⟨at_,q (Nw.refl _) (j:=1) rfl,λhn=>no (by omega) λh=>by have:=h.1.1;simp only at this;omega,λa0=>⟨at_,q (Nw.refl _) (j:=1) rfl,_,_,_,t2,λhn=>no (by omega) λh=>by have:=h.1.2;simp only at this;omega,λa1=>?_⟩⟩
  obtain⟨k,rfl⟩:=Int.eq_ofNat_of_zero_le (show 0<=at_ by omega)
  obtain⟨b,o,p',q',A',n',K',zs,hA,-,-,htt,f0,f1,f2,sz⟩:=(Z.nw k12).ts.tableZ (k:=k) (by omega)
  have htb:N.tb k=(p',q',zs):=by unfold ab.tb;rw[htt];rfl
  have iT:N.isTurn (2,(k:Int),ci,co,w)↔(0<=ci/\ci<p')/\(0<=co/\co<q'):=by
   unfold ab.isTurn
   simp only[Int.toNat_natCast,htb]
   constructor
   ·rintro⟨-,h2,h3⟩;exact⟨h2,h3⟩
   ·rintro⟨h2,h3⟩;exact⟨⟨by omega,by omega⟩,h2,h3⟩
  refine⟨ci,q (Nw.refl _) (j:=2) rfl,λhn=>no (by omega) λh=>by have:=(iT.1 h).1;omega,λi0=>⟨ci,q (Nw.refl _) (j:=2) rfl,_,_,_,t2,_,q (Nw.refl _) (j:=1) rfl,k,rfl,b,o,hA,by omega,_,f0,λhn=>no (by omega) λh=>by have:=(iT.1 h).1;omega,λi1=>⟨co,q (Nw.refl _) (j:=3) rfl,λhn=>no (by omega) λh=>by have:=(iT.1 h).2;omega,λo0=>⟨co,q (Nw.refl _) (j:=3) rfl,_,_,_,t2,_,q (Nw.refl _) (j:=1) rfl,k,rfl,b,o,hA,by omega,_,f1,λhn=>no (by omega) λh=>by have:=(iT.1 h).2;omega,λo1=>⟨w,q (Nw.refl _) (j:=4) rfl,gq ⟨_,rfl,λhw=>?_,λhw=>?_⟩⟩⟩⟩⟩⟩
  ·exact hK 0 h2 k12 ⟨λ_=>⟨hw,.inr ⟨rfl,iT.2 ⟨⟨by omega,by omega⟩,by omega,by omega⟩⟩⟩,λ_=>rfl⟩
  ·exact bad 8 h2 k12 (by omega) λB=>by have hb:=B.w;simp only at hb;rw[hb]at hw;cases hw
theorem Ae (Z0:cz h F Av nv Kv Aa na Ka At nt Kt N) (hs0:Sz dt Fl h A n K xs) (hn:n<=1000) (hK:∀A' n' K' (e:Int) h',Nw h h'->(e=0↔bu N xs)->Q (.agg #[.slice A' n' K',.int .i64 e]) h') :
  WC Tryz.prog 26 [.agg #[.slice Av nv Kv,.slice Aa na Ka,.slice At nt Kt],.slice A n K] h Q:=by
 have Z:=Z0.old
 have hs:Sz dt (λz=>z<h.next) h A n K xs:=hs0.mono λz _ hz=>hz
 have hl:=hs.len
 refine jm λh1 e1 h2 e2=>?_
 obtain⟨k1,g1,z1⟩:=aj e1
 obtain⟨k2,g2,z2⟩:=aj e2
 have k12:=k1.trans k2
 have g12:=k2.bk (by omega) g1
 have bN:∀{h'},Nw h2 h'->ldN h' h.next 0 3=some [.slice Av nv Kv,.slice Aa na Ka,.slice At nt Kt]:=λa=>aG (aa (a.bk (by omega) g12) rfl) (aa (a.bk (by omega) g12) rfl) (aa (a.bk (by omega) g12) rfl)
 have fin:∀{h3}(A':Option Addr) (n' K':Nat) (e:Int),Nw h2 h3->(e=0↔bu N xs)->∃h4:AH,stC h3 h1.next 0 [.slice A' n' K',.int .i64 e]=some h4/\∃A6 n6 K6 x2,ldN h4 h1.next 0 2=some [.slice A6 n6 K6,.int .i64 x2]/\Q (.agg #[.slice A6 n6 K6,.int .i64 x2]) h4:=fun {h3} A' n' K' e k3 he=>by
  obtain⟨h4,s4,b4,z4,o4⟩:=bI (vs:=[.slice A' n' K',.int .i64 e]) (k3.bk (by omega) g2) rfl (by simp[flat])
  have z3:=k3.next
  exact⟨h4,s4,_,_,_,_,bY b4 (by simp),hK A' n' K' e h4 ⟨by omega,λz hz=>(o4 z (by omega)).trans ((k12.trans k3).get z hz)⟩ he⟩
 have err:∀{h3}{s:ByteArray}{x e:Int},Nw h2 h3->e≠0->¬bu N xs->WC Tryz.prog 69 [.string s,.int .i64 x,.int .i64 e] h3 (λv1 h3=>∃A5 n5 K5 x1,v1 = .agg #[.slice A5 n5 K5,.int .i64 x1]/\∃h4:AH,stC h3 h1.next 0 [.slice A5 n5 K5,.int .i64 x1]=some h4/\∃A6 n6 K6 x2,ldN h4 h1.next 0 2=some [.slice A6 n6 K6,.int .i64 x2]/\Q (.agg #[.slice A6 n6 K6,.int .i64 x2]) h4):=fun {h3 s x e} k3 he hB=>
  aAt λA' h4 _ k4=>⟨_,_,_,_,rfl,fin _ _ _ _ (k3.trans k4) ⟨λh=>absurd h he,λB=>absurd B hB⟩⟩
 refine⟨λhbig=>err (Nw.refl _) (by omega) λB=>by have:=B.len;omega,λhle=>?_⟩
 refine⟨λm x h5=>∃i:Nat,x=i/\i<=n/\m=n - i/\Nw h2 h5/\(∀j x,j<i->xs[j]? = some x->dJ N x)/\(∀j i' x y,j<i'->i' < i->xs[j]? = some x->xs[i']? = some y->cB x≠cB y),n,⟨0,rfl,Nat.zero_le _,rfl,Nw.refl _,λj x hj=>absurd hj (by omega),λj i' x y _ hj=>absurd hj (by omega)⟩,?_⟩
 rintro m x h5 ⟨i,rfl,hi,rfl,k5,hok,hone⟩
 refine⟨λhlt=>?_,λhge=>?_⟩
 ·have hin:i<n:=by omega
  obtain⟨b,o,hA,-,hb,hx0⟩:=hs.at_ (by omega)
  have rd:∀{h'}(a:Nw h h'){k x},xs[k]? = some x->∀j u,(du x)[j]? = some u->ldC h' b (o+k*5+j)=some u:=fun {h'} a {k x} hk j u hj=>by
   obtain⟨cs,hc,hr⟩:=hx0 k x hk
   have hr':cs=du x:=hr
   subst hr'
   have:=hc j u hj
   rw[a.ldC hb]
   simpa[Rc.chg,Nat.add_assoc]using this
  obtain⟨x,hx⟩:∃x,xs[i]? = some x:=⟨_,List.getElem?_eq_getElem (by omega)⟩
  have k05:=k12.trans k5
  have n5:ldN h5 b (o+i*5) 5=some (du x):=jt rfl (by omega) λj u hj=>rd k05 hx j u hj
  refine⟨_,_,_,_,_,_,_,_,_,bN k5,i,rfl,b,o,hA,hin,_,_,_,_,_,n5,Dk (Z.nw k05) λe h6 k6 he=>⟨e,rfl,λe0=>?_,λen=>err (k5.trans k6) en λB=>en (he.2 (B.ok x (List.mem_of_getElem? hx)))⟩⟩
  have okx:=he.1 e0
  refine⟨λm x' h7=>∃k:Nat,x' = k/\k<=i/\m=i - k/\Nw h2 h7/\(∀j y,j<k->xs[j]? = some y->cB y≠cB x),i,⟨0,rfl,Nat.zero_le _,rfl,k5.trans k6,λj y hj=>absurd hj (by omega)⟩,?_⟩
  rintro m x' h7 ⟨k,rfl,hk,rfl,k7,hno⟩
  have k07:=k12.trans k7
  refine⟨λhlt7=>?_,λhge7=>?_⟩
  ·obtain⟨y,hy⟩:∃y,xs[k]? = some y:=⟨_,List.getElem?_eq_getElem (by omega)⟩
   have ry:=λj u (hj:(du y)[j]? = some u)=>rd k07 hy j u hj
   have rx:=λj u (hj:(du x)[j]? = some u)=>rd k07 hx j u hj
   have nxt:cB y≠cB x->∃x21,IntKind.i64.wrap ((k:Int)+1)=x21/\∃m',m' < i - k/\∃k':Nat,x21=k'/\k'<=i/\m' = i - k'/\Nw h2 h7/\∀j y,j<k'->xs[j]? = some y->cB y≠cB x:=λhne=>⟨_,wrS (by omega),i - (k+1),by omega,k+1,rfl,by omega,rfl,k7,λj z hj hz=>by
    by_cases e:j=k
    ·subst e
     obtain rfl:=Option.some.inj (hy.symm.trans hz)
     exact hne
    ·exact hno j z (by omega) hz⟩
   refine⟨k,rfl,by omega,_,ry 0 _ rfl,hin,_,rx 0 _ rfl,λq1=>⟨by omega,_,ry 1 _ rfl,hin,_,rx 1 _ rfl,λq2=>⟨by omega,_,ry 2 _ rfl,hin,_,rx 2 _ rfl,λq3=>⟨by omega,_,ry 3 _ rfl,hin,_,rx 3 _ rfl,λq4=>err k7 (by omega) λB=>?_,λq4=>nxt λe=>?_⟩,λq3=>nxt λe=>?_⟩,λq2=>nxt λe=>?_⟩,λq1=>nxt λe=>?_⟩
   ·exact B.one k i y x (by omega) hy hx (by unfold cB;rw[q1,q2,q3,q4])
   all_goals
    unfold cB at e
    simp only[Prod.mk.injEq]at e
   ·exact q4 e.2.2.2.1
   ·exact q3 e.2.2.1
   ·exact q2 e.2.1
   ·exact q1 e.1
  ·obtain rfl:k=i:=by omega
   refine⟨_,wrS (by omega),n - (k+1),by omega,k+1,rfl,by omega,rfl,k7,λj z hj hz=>?_,λj i' z y h1 h2 h3 h4=>?_⟩
   ·by_cases e:j=k
    ·subst e
     obtain rfl:=Option.some.inj (hx.symm.trans hz)
     exact okx
    ·exact hok j z (by omega) hz
   ·by_cases e:i' = k
    ·subst e
     obtain rfl:=Option.some.inj (hx.symm.trans h4)
     exact hno j z h1 h3
    ·exact hone j i' z y h1 (by omega) h3 h4
 ·obtain rfl:i=n:=by omega
  refine fin _ _ _ _ k5 ⟨λ_=>⟨by omega,λx hx=>?_,λj i' x y h1 h2 h3=>hone j i' x y h1 (by have:=(List.getElem?_eq_some_iff.1 h3).1;omega) h2 h3⟩,λ_=>rfl⟩
  obtain⟨j,hj⟩:=List.getElem?_of_mem hx
  exact hok j x (by have:=(List.getElem?_eq_some_iff.1 hj).1;omega) hj
end
end Eva
end
section
open Go Go.RowKit
namespace Eva
section
variable {h h':AH}{F Fl:Nat->Prop}{Q:Value->AH->Prop}{A Av Aa At Al:Option Addr}{n K nv Kv na Ka nt Kt nl Kl:Nat}{N:ab}{xs:List Chg}{ls:List (List Chg)}
theorem Af (Z0:cz h F Av nv Kv Aa na Ka At nt Kt N) (hf:nY N) (ok:N.Ok) (hs0:Sz dt Fl h A n K xs) (B:bu N xs) (hK:∀A1 n1 K1 A2 n2 K2 A3 n3 K3 h',cz h' (λz=>h.next<=z) A1 n1 K1 A2 n2 K2 A3 n3 K3 (N.doL xs)->Nw h h'->Q (.agg #[.slice A1 n1 K1,.slice A2 n2 K2,.slice A3 n3 K3]) h') :
  WC Tryz.prog 27 [.agg #[.slice Av nv Kv,.slice Aa na Ka,.slice At nt Kt],.slice A n K] h Q:=by
 have Z:=Z0.old
 have hs:Sz dt (λz=>z<h.next) h A n K xs:=hs0.mono λz _ hz=>hz
 have hl:=hs.len
 have hn:=B.len
 refine oU λh1 e1 h2 e2=>?_
 obtain⟨k1,g1,z1⟩:=aj e1
 obtain⟨k2,g2,z2⟩:=aj e2
 have k12:=k1.trans k2
 have g12:=k2.bk (by omega) g1
 refine⟨_,_,_,_,_,_,_,_,_,aG (aa g12 rfl) (aa g12 rfl) (aa g12 rfl),Dh (Z.nw k12) hf λA8 K8 A9 K9 A10 K10 h3 v3 a3 t3 lo8 lo9 k3=>⟨_,_,_,_,_,_,_,_,_,rfl,λh4 e4=>?_⟩⟩
 obtain⟨h5,s5,k5,g5,z5⟩:=ay (vs:=[.slice A8 nv K8,.slice A9 na K9,.slice A10 nt K10]) e4 rfl (by simp[flat])
 have z3:=k3.next
 have k35:=k3.trans k5
 have l8:∀z,af A8 z->z<h3.next:=λz hz=>v3.own hz
 have l9:∀z,af A9 z->z<h3.next:=λz hz=>a3.own hz
 refine⟨h5,s5,λm x h6=>∃i:Nat,x=i/\i<=n/\m=n - i/\Bk h6 h3.next [.slice A8 nv K8,.slice A9 na K9,.slice A10 nt K10] 26/\al aJ h6 (af A8) 123 A8 nv K8 N.vs/\al aJ h6 (af A9) 44 A9 na K9 (N.doL (xs.take i)).xa/\eB h6 (λz=>h2.next<=z/\¬af A8 z/\¬af A9 z/\z<h3.next) A10 nt K10 (N.doL (xs.take i)).ts/\Nw h2 h6/\h5.next<=h6.next,n,⟨0,rfl,Nat.zero_le _,rfl,g5,v3.nw k5,a3.nw k5,t3.nw k5,k35,Nat.le_refl _⟩,?_⟩
 rintro m x h6 ⟨i,rfl,hi,rfl,g6,v6,a6,t6,k6,z6⟩
 have k06:=k12.trans k6
 refine⟨λhlt=>?_,λhge=>?_⟩
 ·have hin:i<n:=by omega
  obtain⟨b',o',x,hA',-,hlb,hx,hc,hn5⟩:=(hs.nw k06).chg (k:=i) hin
  refine⟨i,rfl,b',o',hA',hin,_,_,_,_,_,hn5,λh7 e7=>?_⟩
  obtain⟨h8,s8,k8,g8,z8⟩:=ay (vs:=du x) e7 rfl (tF x)
  have S:=ab.doL_shp (xs.take i) (N:=N)
  have hxo:=(B.ok x (List.mem_of_getElem? hx)).shp S
  have htk:xs.take (i+1)=xs.take i ++ [x]:=by rw[List.take_add_one,hx];rfl
  obtain⟨M,hM⟩:∃M,N.doL (xs.take i)=M:=⟨_,rfl⟩
  rw[hM]at a6 t6 S hxo
  have hd:N.doL (xs.take (i+1))=M.do1 x:=by rw[htk,ab.doL_snoc,hM]
  have g68:=k8.bk (by omega) g6
  obtain⟨kd,at_,ci,co,w⟩:=x
  refine⟨h8,s8,kd,aa g8 rfl,λc1=>?_,λc1=>?_⟩
  ·subst c1
   obtain⟨hw,⟨-,a1,a2,-,-⟩ | ⟨h1',-⟩⟩:=hxo
   ·simp only at a1 a2
    obtain⟨a,rfl⟩:=Int.eq_ofNat_of_zero_le a1
    have han:a<M.na:=by omega
    have a8:=a6.nw k8
    have hal:M.xa.length=na:=a8.1
    have hget:=ab.arc_get han
    obtain⟨gA,hgA⟩:∃gA,A9=some ⟨gA,0,none⟩:=by
     rcases a8.2 with⟨-,h0,-⟩ | ⟨gA,_,hgA,-⟩
     ·unfold ab.na at han;omega
     ·exact⟨gA,hgA⟩
    subst hgA
    obtain⟨h9,s9,o9,z9,q9⟩:=al.setW a8 hget w
    have m9:Mt (λz=>z=gA) h8 h9:=⟨by omega,λz _ hn=>q9 z hn⟩
    have gA3:=l9 gA rfl
    have gA2:=lo9 gA rfl
    refine⟨_,_,_,aa g68 rfl,_,aa g8 rfl,_,aa g8 rfl,a,rfl,gA,0,rfl,by unfold ab.na at han;omega,h9,s9,_,wrS (by omega),n - (i+1),by omega,i+1,rfl,by omega,rfl,m9.bk (by omega) (by omega) g68,(v6.nw k8).off m9 λz hz _ e=>(lo8 z hz).2 e,?_,?_,m9.is_nw (k6.trans k8) λz hz=>by omega,by omega⟩
    ·rw[hd];exact o9
    ·rw[hd];exact(t6.nw k8).off m9 λz hz _ e=>hz.2.2.1 e
   ·simp at h1'
  ·obtain⟨hw,⟨h1',-⟩ | ⟨c2,⟨a1,a2⟩,⟨a3',a4⟩,a5,a6'⟩⟩:=hxo
   ·exact absurd h1' c1
   ·simp only at a1 a2 a3' a4 a5 a6' c2
    subst c2
    obtain⟨a,rfl⟩:=Int.eq_ofNat_of_zero_le a1
    obtain⟨b,rfl⟩:=Int.eq_ofNat_of_zero_le a3'
    obtain⟨c,rfl⟩:=Int.eq_ofNat_of_zero_le a5
    simp only[Int.toNat_natCast]at a4 a6'
    have hat:a<M.ts.length:=by omega
    have htb:M.ts[a]? = some (M.tb a):=by simp[ab.tb,List.getElem?_eq_getElem hat]
    have okM:M.Ok:=by rw[<-hM];exact ab.doL_ok ok _ λy hy=>B.ok y (List.mem_of_mem_take hy)
    have htk2:=ab.tb_ok okM hat
    obtain⟨⟨i0,i1⟩,⟨q0,q1⟩,tl,-⟩:=id htk2
    obtain⟨O,hO⟩:=Int.eq_ofNat_of_zero_le q0
    obtain⟨I,hI⟩:=Int.eq_ofNat_of_zero_le i0
    have hmul:(b+1)*O<=I*O:=Nat.mul_le_mul_right _ (by omega)
    rw[Nat.succ_mul]at hmul
    have hIO:I*O<=16*16:=Nat.mul_le_mul (by omega) (by omega)
    have hlen:(M.tb a).2.2.length=I*O:=by rw[hI,hO,<-Int.natCast_mul]at tl;omega
    have tln:=t6.len
    obtain⟨g,K1,gr,hg,hld,hWr,hgl,hst⟩:=(t6.nw k8).st htb (i:=b*O+c) (by omega) w
    obtain⟨h11,s11,k11,g11,z11⟩:=ay (h:=h8) (z:=[.int .i64 0,.int .i64 0,.slice none 0 0]) (t:=121) (vs:=[.int .i64 (M.tb a).1,.int .i64 (M.tb a).2.1,.slice (some ⟨gr,0,none⟩) (M.tb a).2.2.length K1]) rfl rfl (by simp[flat])
    obtain⟨h12,s12,t12,z12,q12⟩:=hst h11 k11
    have g811:=k11.bk (by omega) g8
    have m12:Mt (λz=>z=gr) h11 h12:=⟨by omega,λz _ hn=>q12 z hn⟩
    have w1:IntKind.i64.wrap ((b:Int)*(M.tb a).2.1)=((b*O:Nat):Int):=by rw[hO,<-Int.natCast_mul];exact ah (by omega) (by omega)
    have w2:IntKind.i64.wrap (((b*O:Nat):Int)+(c:Int))=((b*O+c:Nat):Int):=by rw[Int.natCast_add];exact ah (by omega) (by omega)
    have z8':=k8.next
    refine⟨_,_,_,aa g68 rfl,_,aa g8 rfl,a,rfl,g,0,hg,by omega,_,_,_,_,_,hld,λh10 e10=>?_⟩
    subst e10
    refine⟨h11,s11,_,_,_,aa g11 rfl,_,aa g811 rfl,_,aa g11 rfl,_,w1,_,aa g811 rfl,_,w2,_,aa g811 rfl,b*O+c,rfl,gr,0,rfl,by omega,h12,s12,_,wrS (by omega),n - (i+1),by omega,i+1,rfl,by omega,rfl,m12.bk (by omega) (by omega) (k11.bk (by omega) g68),((v6.nw k8).nw k11).off m12 λz hz _ e=>hWr.2.1 (e ▸ hz),?_,?_,m12.is_nw ((k6.trans k8).trans k11) λz hz=>by omega,by omega⟩
    ·rw[hd];exact((a6.nw k8).nw k11).off m12 λz hz _ e=>hWr.2.2.1 (e ▸ hz)
    ·have e:(M.do1 (2,(a:Int),(b:Int),(c:Int),w)).ts=M.ts.set a ((M.tb a).1,(M.tb a).2.1,(M.tb a).2.2.set (b*O+c) w):=by
      unfold ab.do1 ab.bend uI
      simp[hO]
     rw[hd,e];exact t12
 ·obtain rfl:i=n:=by omega
  have e:xs.take i=xs:=List.take_of_length_le (by omega)
  rw[e]at a6 t6
  have e2:(N.doL xs).vs=N.vs:=(ab.doL_shp xs (N:=N)).vs
  obtain⟨h13,s13,b13,z13,q13⟩:=bI (vs:=[.slice A8 nv K8,.slice A9 na K9,.slice A10 nt K10]) (k6.bk (by omega) g2) rfl (by simp[flat])
  have m13:Mt (λz=>z=h1.next) h6 h13:=⟨by omega,λz _ hn=>q13 z hn⟩
  refine⟨_,_,_,_,_,_,_,_,_,aG (aa g6 rfl) (aa g6 rfl) (aa g6 rfl),h13,s13,_,_,_,_,_,_,_,_,_,aG (aa b13 rfl) (aa b13 rfl) (aa b13 rfl),hK _ _ _ _ _ _ _ _ _ h13 ⟨?_,?_,?_⟩ (m13.is_nw k06 λz hz=>by omega)⟩
  ·rw[e2]
   exact((v6.off m13 λz hz _ e=>by have:=(lo8 z hz).1;omega).sa.mono λz hz _=>by have:=(lo8 z hz).1;omega).z
  ·exact((a6.off m13 λz hz _ e=>by have:=lo9 z hz;omega).sa.mono λz hz _=>by have:=lo9 z hz;omega).z
  ·exact(t6.off m13 λz hz _ e=>by have:=hz.1;omega).sz.mono λz hz _=>by have:=hz.1;omega
theorem El (hl0:Sz (Rc.sliceZ dt) Fl h Al nl Kl ls) (hmx:nl<=9223372036854775807) (hK:∀b:Bool,(b=true->nl<=6/\∀l∈ls,l.length<=300)->Q (.bool b) h):WC Tryz.prog 6 [.slice Al nl Kl] h Q:=by
 have hll:=hl0.len
 refine xd ⟨λm x h1=>h1=h/\∃i:Nat,x=i/\i<=nl/\m=nl - i/\∀l∈ls.take i,l.length<=300,nl,⟨rfl,0,rfl,Nat.zero_le _,rfl,by simp⟩,?_⟩
 rintro m x h1 ⟨rfl,i,rfl,hi,rfl,hq⟩
 refine⟨λhlt=>?_,λhge=>⟨λh6=>hK true λ_=>⟨by omega,?_⟩,λh6=>hK false λh=>Bool.noConfusion h⟩⟩
 ·obtain⟨b,o,A2,n2,K2,l,hA,-,-,hx,e0,sl⟩:=hl0.rowZ (k:=i) (by omega)
  have hn2:=sl.len
  refine⟨i,rfl,b,o,hA,by omega,_,_,_,e0,λhbig=>hK false λh=>Bool.noConfusion h,λhle=>⟨_,?_,nl - (i+1),by omega,rfl,i+1,rfl,by omega,rfl,λy hy=>?_⟩⟩
  ·rw[Int.natCast_succ];exact ah (by omega) (by omega)
  ·rw[List.take_add_one,hx]at hy
   rcases List.mem_append.1 hy with hy | hy
   ·exact hq y hy
   ·have:y=l:=by simpa using hy
    rw[this];omega
 ·rw[List.take_of_length_le (by omega)]at hq
  exact hq
theorem BL (Z0:cz h F Av nv Kv Aa na Ka At nt Kt N) (hf:nY N) (ok:N.Ok) (hl0:Sz (Rc.sliceZ dt) Fl h Al nl Kl ls) (hl6:nl<=1000) (hl3:∀l∈ls,l.length<=300)
  (hK:∀A1 n1 K1 A2 n2 K2 A3 n3 K3 h',cz h' (λz=>z<h'.next) A1 n1 K1 A2 n2 K2 A3 n3 K3 (N.behind ls)->Nw h h'->Q (.agg #[.slice A1 n1 K1,.slice A2 n2 K2,.slice A3 n3 K3]) h') :
  WC Tryz.prog 7 [.agg #[.slice Av nv Kv,.slice Aa na Ka,.slice At nt Kt],.slice Al nl Kl] h Q:=by
 have Z:=Z0.old
 have hl:Sz (Rc.sliceZ dt) (λz=>z<h.next) h Al nl Kl ls:=hl0.mono λz _ hz=>hz
 have hll:=hl.len
 refine qX λh1 e1 h2 e2=>?_
 obtain⟨k1,g1,z1⟩:=aj e1
 obtain⟨k2,g2,z2⟩:=aj e2
 have k12:=k1.trans k2
 have g12:=k2.bk (by omega) g1
 refine⟨λm x h3=>∃(i:Nat) (A1 A2 A3:Option Addr) (n1 K1 n2 K2 n3 K3:Nat),x=i/\i<=nl/\m=nl - i/\Bk h3 h.next [.slice A1 n1 K1,.slice A2 n2 K2,.slice A3 n3 K3] 26/\cz h3 (λz=>z≠h.next/\z≠h1.next) A1 n1 K1 A2 n2 K2 A3 n3 K3 (N.behind (ls.take i))/\Mt (λz=>z=h.next) h2 h3,nl,⟨0,_,_,_,_,_,_,_,_,_,rfl,Nat.zero_le _,rfl,g12,?_,Mt.refl _ _⟩,?_⟩
 ·have Z2:=Z.nw k12
  exact⟨Z2.vs.mono λz hz _=>⟨by omega,by omega⟩,Z2.xa.mono λz hz _=>⟨by omega,by omega⟩,Z2.ts.mono λz hz _=>⟨by omega,by omega⟩⟩
 rintro m x h3 ⟨i,A1,A2,A3,n1,K1,n2,K2,n3,K3,rfl,hi,rfl,g3,Z3,m3⟩
 have z3:=m3.next
 have k03:Nw h h3:=m3.is_nw k12 λz hz=>by omega
 have S:=ab.behind_shp (ls.take i) N
 have okM:=ab.behind_ok (ls.take i) ok
 refine⟨λhlt=>?_,λhge=>?_⟩
 ·have hin:i<nl:=by omega
  obtain⟨b,o,A8,n8,K8,l,hA,-,hlb,hx,e0,sl⟩:=(hl.nw k03).rowZ (k:=i) hin
  have hn8:=sl.len
  have hl300:=hl3 l (List.mem_of_getElem? hx)
  have hst:N.behind (ls.take (i+1))=(N.behind (ls.take i)).step l:=by rw[List.take_add_one,hx];exact ab.behind_snoc N _ l
  refine⟨_,_,_,_,_,_,_,_,_,aG (aa g3 rfl) (aa g3 rfl) (aa g3 rfl),i,rfl,b,o,hA,hin,_,_,_,e0,Ae Z3 sl (by omega) λA9 n9 K9 e h4 k4 he=>⟨_,_,_,e,rfl,λe0'=>?_,λen=>?_⟩⟩
  ·have B:=he.1 e0'
   have z4:=k4.next
   have g4:=k4.bk (by omega) g3
   have hFM:nY (N.behind (ls.take i)):=by
    obtain⟨f1,f2,f3,f4⟩:=hf
    refine⟨by rw[S.vs];exact f1,by have:=S.na;unfold ab.na at this;omega,by rw[S.nt];exact f3,λt ht=>?_⟩
    obtain⟨j,hj⟩:=List.getElem?_of_mem ht
    have hT:=okM.types_ t ht
    obtain⟨i0,i1⟩:=hT.ins_
    obtain⟨q0,q1⟩:=hT.outs_
    obtain⟨I,hI⟩:=Int.eq_ofNat_of_zero_le i0
    obtain⟨O,hO⟩:=Int.eq_ofNat_of_zero_le q0
    have hIO:I*O<=16*16:=Nat.mul_le_mul (by omega) (by omega)
    have tl:=hT.len
    rw[hI,hO,<-Int.natCast_mul]at tl
    omega
   refine⟨_,_,_,_,_,_,_,_,_,aG (aa g4 rfl) (aa g4 rfl) (aa g4 rfl),hin,_,_,_,(k4.ldC hlb _).trans e0,Af (Z3.nw k4) hFM okM (sl.nw k4) B λA14 n14 K14 A15 n15 K15 A16 n16 K16 h5 Z5 k5=>⟨_,_,_,_,_,_,_,_,_,rfl,?_⟩⟩
   have z5:=k5.next
   obtain⟨h6,s6,b6,z6,q6⟩:=bI (vs:=[.slice A14 n14 K14,.slice A15 n15 K15,.slice A16 n16 K16]) (k5.bk (by omega) g4) rfl (by simp[flat])
   have m6:Mt (λz=>z=h.next) h5 h6:=⟨by omega,λz _ hn=>q6 z hn⟩
   have Z6:=Z5.off m6 λz hz e=>by omega
   refine⟨h6,s6,_,wrS (by omega),nl - (i+1),by omega,i+1,_,_,_,_,_,_,_,_,_,rfl,by omega,rfl,b6,?_,(m3.nw (k4.trans k5)).then m6⟩
   have e:N.behind (ls.take (i+1))=(N.behind (ls.take i)).doL l:=by rw[hst];unfold ab.step;rw[if_pos B]
   rw[e]
   exact⟨Z6.vs.mono λz hz _=>⟨by omega,by omega⟩,Z6.xa.mono λz hz _=>⟨by omega,by omega⟩,Z6.ts.mono λz hz _=>⟨by omega,by omega⟩⟩
  ·have z4:=k4.next
   refine⟨_,wrS (by omega),nl - (i+1),by omega,i+1,_,_,_,_,_,_,_,_,_,rfl,by omega,rfl,k4.bk (by omega) g3,?_,m3.nw k4⟩
   have e:N.behind (ls.take (i+1))=N.behind (ls.take i):=by rw[hst];unfold ab.step;rw[if_neg (λB=>en (he.2 B))]
   rw[e]
   exact Z3.nw k4
 ·obtain rfl:i=nl:=by omega
  have e:ls.take i=ls:=List.take_of_length_le (by omega)
  rw[e]at Z3
  have g23:=m3.bk (by omega) (by omega) g2
  obtain⟨h7,s7,b7,z7,q7⟩:=bI (vs:=[.slice A1 n1 K1,.slice A2 n2 K2,.slice A3 n3 K3]) g23 rfl (by simp[flat])
  have m7:Mt (λz=>z=h1.next) h3 h7:=⟨by omega,λz _ hn=>q7 z hn⟩
  exact⟨_,_,_,_,_,_,_,_,_,aG (aa g3 rfl) (aa g3 rfl) (aa g3 rfl),h7,s7,_,_,_,_,_,_,_,_,_,aG (aa b7 rfl) (aa b7 rfl) (aa b7 rfl),hK _ _ _ _ _ _ _ _ _ h7 (Z3.off m7 λz hz e=>hz.2 e).old (m7.is_nw k03 λz hz=>by omega)⟩
end
end Eva
end
section
open Go Go.RowKit
theorem tI {l l':List Nat}(h:ints l=ints l'):l=l':=by
 unfold ints at h
 exact(List.map_inj_right λx y e=>Int.ofNat.inj e).1 h
namespace Eva
section
variable {h h':AH}{F G H:Nat->Prop}{Q:Value->AH->Prop}{A Av Aa At Ac Ar:Option Addr}{nv Kv na Ka nt Kt nc Kc nr Kr k:Nat}{M:ab}{p:List (List Int)}{rs row:List Int}
theorem tJ (Z0:cz h F Av nv Kv Aa na Ka At nt Kt M) (ok:M.Ok) (hna:M.na<=1000) (hp:ax M.nv p) (hk1:1<=k) (hkl:k<=p.length) (hrow:p[k - 1]? = some row) (hc0:Sz cI G h Ac nc Kc row) (hr0:Sz cI H h Ar nr Kr rs) (hnr:nr<=8000000000000)
  (hK0:∀h',Nw h h'->(∀s t l,kX M p k rs s t l->goT M (ka M p k s) s l 0=none)->Q (.tuple #[.int .i64 0,.bool false]) h')
  (hK1:∀s t l x h',Nw h h'->kX M p k rs s t l->goT M (ka M p k s) s l 0=some x->Q (.tuple #[.int .i64 x,.bool true]) h') :
  WC Tryz.prog 8 [.agg #[.slice Av nv Kv,.slice Aa na Ka,.slice At nt Kt],.slice Ac nc Kc,.slice Ar nr Kr] h Q:=by
 have Z:=Z0.old
 have hc:Sz cI (λz=>z<h.next) h Ac nc Kc row:=hc0.mono λz _ hz=>hz
 have hr:Sz cI (λz=>z<h.next) h Ar nr Kr rs:=hr0.mono λz _ hz=>hz
 have la:M.na=na:=Z.xa.len
 have lr:=hr.len
 obtain⟨hrl,hrx⟩:=cF hp hrow
 have lc:M.nv=nc:=by rw[<-hc.len];exact hrl.symm
 refine oT λh1 e1=>?_
 obtain⟨k1,g1,z1⟩:=aj e1
 have c0:∀{h'},Nw h1 h'->ldC h' h.next 0=some (.slice Av nv Kv):=λa=>aa (a.bk (by omega) g1) rfl
 have c1:∀{h'},Nw h1 h'->ldC h' h.next 1=some (.slice Aa na Ka):=λa=>aa (a.bk (by omega) g1) rfl
 have c2:∀{h'},Nw h1 h'->ldC h' h.next 2=some (.slice At nt Kt):=λa=>aa (a.bk (by omega) g1) rfl
 have bN:∀{h'},Nw h1 h'->ldN h' h.next 0 3=some [.slice Av nv Kv,.slice Aa na Ka,.slice At nt Kt]:=λa=>aG (c0 a) (c1 a) (c2 a)
 refine⟨λhlt=>hK0 _ k1 λs t l T=>?_,λhge=>?_⟩
 ·obtain⟨l',hl'⟩:=T.last
  have h1:=congrArg List.length T.eq
  rw[hl',lr]at h1
  simp[ints]at h1
  omega
 obtain⟨b2,o2,hAr,-,hb2,hx2⟩:=hr.at_ (by omega)
 have rdR:∀{h'}(a:Nw h h'){j:Nat}{x:Int},rs[j]? = some x->ldC h' b2 (o2+j)=some (.int .i64 x):=fun {h'} a {j x} hj=>by
  obtain⟨cs,q1,q2⟩:=hx2 j x hj
  have q2':cs = [.int .i64 x]:=q2
  have:=q1 0 (.int .i64 x) (by rw[q2'];rfl)
  rw[a.ldC hb2]
  simpa[Rc.int]using this
 refine⟨λm x h2=>∃i:Nat,x=i/\i<=nr/\m=nr - i/\Nw h1 h2/\∀j r,j<i->rs[j]? = some r->0<=r/\r<M.na,nr,⟨0,rfl,Nat.zero_le _,rfl,Nw.refl _,λj r hj=>absurd hj (by omega)⟩,?_⟩
 rintro m x h2 ⟨i,rfl,hi,rfl,k2,hall⟩
 have k02:=k1.trans k2
 refine⟨λhlt=>?_,λhge2=>?_⟩
 ·obtain⟨r,hr_⟩:∃r,rs[i]? = some r:=⟨_,List.getElem?_eq_getElem (by omega)⟩
  refine⟨_,_,_,_,_,_,_,_,_,bN k2,i,rfl,b2,o2,hAr,by omega,_,rdR k02 hr_,rD (Z.nw k02) λy h3 k3 hy=>⟨y,rfl,λhy1=>⟨((i+1:Nat):Int),by rw[Int.natCast_succ];exact ah (by omega) (by omega),nr - (i+1),by omega,i+1,rfl,by omega,rfl,k2.trans k3,λj r' hj hr'=>?_⟩,λhy0=>hK0 h3 (k02.trans k3) λs t l T=>?_⟩⟩
  ·by_cases e:j=i
   ·subst e
    obtain rfl:=Option.some.inj (hr_.symm.trans hr')
    exact hy.1 hy1
   ·exact hall j r' (by omega) hr'
  ·exfalso
   have he:=T.eq
   rw[he]at hr_
   unfold ints at hr_
   rw[List.getElem?_map]at hr_
   cases hb:(s :: l)[i]? with
   | none=>rw[hb]at hr_;cases hr_
   | some b=>
    rw[hb]at hr_
    have hbr:(b:Int)=r:=Option.some.inj hr_
    have hbn:=T.lt b (List.mem_of_getElem? hb)
    rw[hy.2 ⟨by omega,by omega⟩]at hy0
    cases hy0
 obtain rfl:i=nr:=by omega
 obtain⟨ns,hns,hnlt⟩:∃ns:List Nat,rs=ints ns/\∀b∈ns,b<M.na:=by
  refine⟨rs.map Int.toNat,?_,λb hb=>?_⟩
  ·unfold ints
   rw[List.map_map]
   apply List.ext_getElem?
   intro j
   rw[List.getElem?_map]
   cases hj:rs[j]? with
   | none=>rfl
   | some r=>
    have:=hall j r (by have:=(List.getElem?_eq_some_iff.1 hj).1;omega) hj
    simp
    omega
  ·obtain⟨r,hr_,rfl⟩:=List.mem_map.1 hb
   obtain⟨j,hj⟩:=List.getElem?_of_mem hr_
   have:=hall j r (by have:=(List.getElem?_eq_some_iff.1 hj).1;omega) hj
   omega
 have lns:ns.length=i:=by rw[<-lr,hns];simp[ints]
 have rdN:∀{h'}(a:Nw h h'){j:Nat}{b:Nat},ns[j]? = some b->ldC h' b2 (o2+j)=some (.int .i64 (b:Int)):=fun {h'} a {j b} hj=>rdR a (by rw[hns];simp[ints,hj])
 obtain⟨s,l,hsl⟩:∃s l,ns=s :: l:=by
  cases ns with
  | nil=>simp at lns;omega
  | cons s l=>exact⟨s,l,rfl⟩
 have hl0:l≠[]:=λe=>by rw[hsl,e]at lns;simp at lns;omega
 obtain⟨l',t,hlt⟩:∃l' t,l=l' ++ [t]:=⟨l.dropLast,l.getLast hl0,(List.dropLast_concat_getLast hl0).symm⟩
 have hsn:s<M.na:=hnlt s (by rw[hsl];simp)
 have htn:t<M.na:=hnlt t (by rw[hsl,hlt];simp)
 have h0s:ns[0]? = some s:=by rw[hsl];rfl
 have hlast:ns[i - 1]? = some t:=by
  have e:i - 1=(s :: l').length:=by rw[hsl,hlt]at lns;simp at lns;simp;omega
  rw[hsl,hlt,e,<-List.cons_append,List.getElem?_append_right (Nat.le_refl _),Nat.sub_self];rfl
 have uniq:∀{s' t' l2},kX M p k rs s' t' l2->s' = s/\l2=l/\t' = t:=fun {s' t' l2} T=>by
  have h1:=T.eq
  rw[hns,hsl]at h1
  have h2:=tI h1
  injection h2 with h3 h4
  obtain⟨l3,h5⟩:=T.last
  refine⟨h3.symm,h4.symm,?_⟩
  rw[<-h4,hlt]at h5
  have:=congrArg List.getLast? h5
  simpa using this.symm
 obtain⟨ba,oa,hAa,-,hba,hxa⟩:=Z.xa.at_ (by omega)
 have rdA:∀{h'}(a:Nw h h'){j:Nat},j<M.na->ldN h' ba (oa+j*3) 3=some [.int .i64 (M.fr j:Int),.int .i64 (M.to j:Int),.int .i64 (M.w j)]:=fun {h'} a {j} hj=>by
  obtain⟨cs,q1,q2⟩:=hxa j _ (ab.arc_get hj)
  have q2':cs = [.int .i64 (M.arc j).1,.int .i64 (M.arc j).2.1,.int .i64 (M.arc j).2.2]:=q2
  have ef:=(ab.fr_lt ok hj).2
  have et:=(ab.to_lt ok hj).2
  have ew:M.w j=(M.arc j).2.2:=by unfold ab.w;rw[if_pos hj]
  rw[ef,et,<-ew]at q2'
  have d:∀j' u,cs[j']? = some u->ldC h' ba (oa+j*3+j')=some u:=λj' u hu=>by
   have:=q1 j' u hu
   rw[a.ldC hba]
   simpa[Rc.tri,Nat.add_assoc]using this
  exact aG (d 0 _ (by rw[q2'];rfl)) (d 1 _ (by rw[q2'];rfl)) (d 2 _ (by rw[q2'];rfl))
 have hnv:=hp.nv_
 obtain⟨bc,oc,hAc,-,hbc,hxc⟩:=hc.at_ (by have:=(ab.to_lt ok hsn).1;omega)
 have rdC:∀{h'}(a:Nw h h'){v:Nat},v<M.nv->ldC h' bc (oc+v)=some (.int .i64 (cel p k v:Int)):=fun {h'} a {v} hv=>by
  obtain⟨x,hx,x0,-⟩:=hrx v hv
  obtain⟨cs,q1,q2⟩:=hxc v x hx
  have q2':cs = [.int .i64 x]:=q2
  have:=q1 0 (.int .i64 x) (by rw[q2'];rfl)
  have ec:=cn hrow hx
  have ex:x=(cel p k v:Int):=by omega
  rw[a.ldC hbc,<-ex]
  simpa[Rc.int]using this
 have fs:=(ab.fr_lt ok hsn).1
 have ts:=(ab.to_lt ok hsn).1
 have ft:=(ab.fr_lt ok htn).1
 have tt:=(ab.to_lt ok htn).1
 subst hAa hAc
 have w1:IntKind.i64.wrap ((i:Int) - 1)=((i - 1:Nat):Int):=by rw[Int.natCast_sub (by omega)];exact ah (by omega) (by omega)
 refine⟨_,_,_,c1 k2,b2,o2,hAr,by omega,_,rdN k02 h0s,s,rfl,ba,oa,rfl,by omega,_,_,_,rdA k02 hsn,_,_,_,c1 k2,_,w1,i - 1,rfl,by omega,_,rdN k02 hlast,t,rfl,ba,oa,rfl,by omega,_,_,_,rdA k02 htn,λh4 e4 h5 e5=>?_⟩
 obtain⟨k4,g4,z4⟩:=aj e4
 obtain⟨k5,g5,z5⟩:=aj e5
 have k25:=k4.trans k5
 have z2:=k02.next
 obtain⟨h6,s6,g6,z6,q6⟩:=bI (vs:=[.int .i64 (M.fr s:Int),.int .i64 (M.to s:Int),.int .i64 (M.w s)]) (k5.bk (by omega) g4) rfl (by simp[flat])
 have k26:Nw h2 h6:=⟨by omega,λz hz=>(q6 z (by omega)).trans (k25.get z hz)⟩
 have k06:=k02.trans k26
 have E3:∀a b c:Int,aZ (.agg #[.int .i64 a,.int .i64 b,.int .i64 c]):=λa b c=>ww trivial trivial trivial
 obtain⟨h7,s7,g7,z7,q7⟩:=bI (vs:=[.int .i64 (M.fr t:Int),.int .i64 (M.to t:Int),.int .i64 (M.w t)]) ((q6 _ (by omega)).trans g5) rfl (by simp[flat])
 have k27:Nw h2 h7:=⟨by omega,λz hz=>(q7 z (by omega)).trans (k26.get z hz)⟩
 have k07:=k02.trans k27
 have g67:=(q7 h2.next (by omega)).trans g6
 have no:∀{h'},Nw h h'->¬(M.inA p k (cel p k (M.to s)) s/\M.outA p k (cel p k (M.to s)) t)->Q (.tuple #[.int .i64 0,.bool false]) h':=λa hn=>hK0 _ a λs' t' l2 T=>by
  obtain⟨rfl,rfl,rfl⟩:=uniq T
  exact absurd ⟨T.in_,T.out⟩ hn
 refine⟨h6,s6,rdA k06 htn,E3 _ _ _,rdN k06 hlast,c1 (k2.trans k26),h7,s7,_,aa g67 rfl,M.to s,rfl,bc,oc,rfl,by omega,_,rdC k07 ts,_,aa g67 rfl,M.fr s,rfl,by omega,_,rdC k07 fs,λhe=>no k07 λhh=>hh.1.2 (by omega),λhne=>⟨_,aa g7 rfl,M.fr t,rfl,by omega,_,rdC k07 ft,λhe2=>⟨_,aa g7 rfl,M.to t,rfl,by omega,_,rdC k07 tt,λhe3=>no k07 λhh=>hh.2.2 (by omega),λhne3=>?_⟩,λhne2=>no k07 λhh=>hne2 (by rw[hh.2.1])⟩⟩
 have T:kX M p k rs s t l:=⟨by rw[hns,hsl],λb hb=>hnlt b (by rw[hsl];exact hb),⟨l',hlt⟩,⟨rfl,λe=>hne (by rw[e])⟩,⟨by omega,λe=>hne3 (by rw[e])⟩⟩
 have bad:∀{h'},Nw h h'->goT M (ka M p k s) s l 0=none->Q (.tuple #[.int .i64 0,.bool false]) h':=λa hn=>hK0 _ a λs' t' l2 T'=>by
  obtain⟨rfl,rfl,rfl⟩:=uniq T'
  exact hn
 have hd1:ns.drop 1=l:=by rw[hsl];rfl
 refine⟨λm x y h8=>∃j:Nat,y=j/\1<=j/\j<=i/\m=i - j/\Nw h1 h8/\∀a,ns[j - 1]? = some a->goT M (ka M p k s) a (ns.drop j) x=goT M (ka M p k s) s l 0,i - 1,⟨1,rfl,Nat.le_refl _,by omega,rfl,k2.trans k27,λa ha=>?_⟩,?_⟩
 ·obtain rfl:=Option.some.inj (h0s.symm.trans ha)
  rw[hd1]
 rintro m x y h8 ⟨j,rfl,hj1,hji,rfl,k8,hg⟩
 have k08:=k1.trans k8
 obtain⟨a,ha⟩:∃a,ns[j - 1]? = some a:=⟨_,List.getElem?_eq_getElem (by omega)⟩
 have hga:=hg a ha
 have han:=hnlt a (List.mem_of_getElem? ha)
 refine⟨λhlt8=>?_,λhge8=>?_⟩
 ·obtain⟨b,hb⟩:∃b,ns[j]? = some b:=⟨_,List.getElem?_eq_getElem (by omega)⟩
  have hbn:=hnlt b (List.mem_of_getElem? hb)
  have fb:=(ab.fr_lt ok hbn).1
  have tb:=(ab.to_lt ok hbn).1
  have hd:ns.drop j=b :: ns.drop (j+1):=by
   rw[List.drop_eq_getElem_cons (by omega)];congr 1;exact(List.getElem?_eq_some_iff.1 hb).2
  rw[hd]at hga
  have wj:IntKind.i64.wrap ((j:Int) - 1)=((j - 1:Nat):Int):=by rw[Int.natCast_sub hj1];exact ah (by omega) (by omega)
  refine⟨_,_,_,_,_,_,_,_,_,bN k8,_,wj,j - 1,rfl,by omega,_,rdN k08 ha,j,rfl,by omega,_,rdN k08 hb,Dj (Z.nw k08) ok hna han hbn λh9 k9=>⟨_,rfl,?_⟩⟩
  have k09:=k08.trans k9
  have z9:=k09.next
  refine⟨_,_,_,c1 (k8.trans k9),by omega,_,rdN k09 hb,b,rfl,ba,oa,rfl,by omega,_,_,_,rdA k09 hbn,λh10 e10=>?_⟩
  obtain⟨h11,s11,k11,g11,z11⟩:=ay (vs:=[.int .i64 (M.fr b:Int),.int .i64 (M.to b:Int),.int .i64 (M.w b)]) e10 rfl (by simp[flat])
  have k011:=k09.trans k11
  have k111:=(k8.trans k9).trans k11
  have wj1:IntKind.i64.wrap ((j:Int)+1)=((j+1:Nat):Int):=by rw[Int.natCast_succ];exact ah (by omega) (by omega)
  have ns1:∀a',ns[j+1 - 1]? = some a'->a' = b:=λa' h=>by rw[Nat.add_sub_cancel]at h;exact Option.some.inj (h.symm.trans hb)
  refine⟨h11,s11,λhti=>bad k011 ?_,λhti=>⟨_,w1,λhlt2=>?_,λhge2=>?_⟩⟩
  ·rw[<-hga]
   by_cases hr0:ns.drop (j+1) = []
   ·rw[hr0,j9,if_pos hti]
   ·rw[rk hr0,if_pos (.inl hti)]
  ·have hr0:ns.drop (j+1)≠[]:=λe=>by have:=congrArg List.length e;rw[List.length_drop]at this;simp at this;omega
   rw[rk hr0]at hga
   have hP:ka M p k s b=true↔cel p k (M.fr b)=cel p k (M.to s)/\cel p k (M.to b)=cel p k (M.to s):=nM
   have out:¬(cel p k (M.fr b)=cel p k (M.to s)/\cel p k (M.to b)=cel p k (M.to s))->goT M (ka M p k s) s l 0=none:=λhn=>by
    have hwf:ka M p k s b=false:=by
     cases hw:ka M p k s b with
     | false=>rfl
     | true=>exact absurd (hP.1 hw) hn
    rw[<-hga,if_pos (.inr (.inl hwf))]
   refine⟨_,aa g11 rfl,M.fr b,rfl,by omega,_,rdC k011 fb,λq1=>⟨_,aa g11 rfl,M.to b,rfl,by omega,_,rdC k011 tb,λq2=>⟨_,aa g11 rfl,λq3=>bad k011 (by rw[<-hga,if_pos (.inr (.inr q3))]),λq3=>?_⟩,λq2=>bad k011 (out λhh=>q2 (by rw[hh.2]))⟩,λq1=>bad k011 (out λhh=>q1 (by rw[hh.1]))⟩
   refine z0 _ _ ⟨_,rfl,_,w1,λ_=>⟨_,aa g11 rfl,z0 _ _ ⟨_,rfl,_,wj1,i - (j+1),by omega,j+1,rfl,by omega,by omega,rfl,k111,λa' ha'=>?_⟩⟩,λhn=>absurd hlt2 hn⟩
   obtain rfl:=ns1 a' ha'
   rw[<-hga,if_neg]
   rintro(h | h | h)
   ·exact hti h
   ·rw[hP.2 ⟨by omega,by omega⟩]at h;cases h
   ·exact q3 h
  ·have hji':j+1=i:=by omega
   have hr0:ns.drop (j+1) = []:=List.drop_of_length_le (by omega)
   rw[hr0,j9,if_neg hti]at hga
   refine z0 _ _ ⟨_,rfl,_,w1,λhh=>absurd hh hge2,λ_=>⟨_,wj1,i - (j+1),by omega,j+1,rfl,by omega,by omega,rfl,k111,λa' ha'=>?_⟩⟩
   obtain rfl:=ns1 a' ha'
   rw[hr0,<-hga]
   rfl
 ·obtain rfl:j=i:=by omega
  rw[List.drop_of_length_le (by omega)]at hga
  exact hK1 s t l x h8 k08 T hga.symm
end
end Eva
end
section
open Go Go.RowKit
open Classical in
noncomputable def ab.prc (N:ab) (p:List (List Int)) (costs:List Int) (j a b:Nat):Int:=
 if j=0 then N.turn a b else if a<N.na/\N.inA p j (cel p j (N.to a)) a/\b<N.na/\N.outA p j (cel p j (N.to a)) b then N.ent p costs j a b else INF
structure lD (N:ab) (p:List (List Int)) (costs:List Int) (j a:Nat) (ol:List Nat) (pr:List Int):Prop where
 len:pr.length=ol.length
 lt:∀b∈ol,b<N.na
 nn:∀x∈pr,0<=x/\x<=INF
 here:∀(i b:Nat) (x:Int),ol[i]? = some b->pr[i]? = some x->x=N.prc p costs j a b
 all:∀b,N.prc p costs j a b<INF->b∈ol
 few:ol.length<=N.na
section
variable {N:ab}{p:List (List Int)}{costs:List Int}{a j:Nat}
theorem uX (hok:N.Ok):lD N p costs 0 a (N.from_ (N.to a)) ((N.from_ (N.to a)).map λb=>N.turn a b):=by
 refine⟨by simp,λb hb=>((ab.mem_from hok).1 hb).1,λx hx=>?_,λi b x hi hx=>?_,λb hy=>?_,aC _ _⟩
 ·obtain⟨b,-,rfl⟩:=List.mem_map.1 hx
  have:=ab.turn_bd hok a b
  unfold INF at *
  omega
 ·rw[List.getElem?_map,hi]at hx
  obtain rfl:=Option.some.inj hx
  unfold ab.prc
  rw[if_pos rfl]
 ·unfold ab.prc at hy
  rw[if_pos rfl]at hy
  exact kV hok hy
theorem uY (hj:j≠0) (h:a ∉ N.ins p j (cel p j (N.to a))\/N.outs p j (cel p j (N.to a)) = []):lD N p costs j a [] []:=by
 refine⟨rfl,by simp,by simp,by simp,λb hy=>?_,Nat.zero_le _⟩
 unfold ab.prc at hy
 rw[if_neg hj]at hy
 split at hy
 ·rename_i hh
  exfalso
  rcases h with h | h
  ·exact h (ab.mem_ins.2 ⟨hh.1,hh.2.1⟩)
  ·have:=ab.mem_outs.2 ⟨hh.2.2.1,hh.2.2.2⟩
   rw[h]at this
   cases this
 ·exact absurd hy (Int.lt_irrefl _)
theorem tK (hok:N.Ok) (hp:ax N.nv p) (hco:ch N p costs) (ha:a<N.na){l c:Nat}(hl0:l≠0) (hll:l<=p.length) (hc:cel p l (N.to a)=c) (hin:a∈N.ins p l c) :
  lD N p costs l a (N.outs p l c) ((costs.drop (N.start p l c+(N.ins p l c).idxOf a*(N.outs p l c).length)).take (N.outs p l c).length):=by
 have hto:=(ab.to_lt hok ha).1
 have hcm:c<ap p l:=by rw[<-hc];exact cE hp (by omega) hll hto
 have hse:=ab.start_end (N:=N) (p:=p) (k:=l) (by omega) hll hcm
 have hidx:=List.idxOf_lt_length_of_mem hin
 have hmul:((N.ins p l c).idxOf a+1)*(N.outs p l c).length<=(N.ins p l c).length*(N.outs p l c).length:=Nat.mul_le_mul_right _ hidx
 rw[Nat.succ_mul]at hmul
 unfold ab.sz at hse
 have hlen:=hco.1
 have get:∀{i:Nat},i<(N.outs p l c).length->((costs.drop (N.start p l c+(N.ins p l c).idxOf a*(N.outs p l c).length)).take (N.outs p l c).length)[i]? = some (at_ costs (N.start p l c+((N.ins p l c).idxOf a*(N.outs p l c).length+i))):=fun {i} hi=>by
  rw[List.getElem?_take,if_pos hi,List.getElem?_drop,Nat.add_assoc]
  unfold at_
  rw[List.getElem?_eq_getElem (by omega)]
  rfl
 have ent:∀{i b:Nat},(N.outs p l c)[i]? = some b->N.ent p costs l a b=at_ costs (N.start p l c+((N.ins p l c).idxOf a*(N.outs p l c).length+i)):=fun {i b} hi=>by
  unfold ab.ent
  have e:(N.outs p l c).idxOf b=i:=gg (aV _ _) (aN (List.mem_of_getElem? hi)) hi
  rw[hc,e]
 refine⟨by rw[List.length_take,List.length_drop];omega,λb hb=>(ab.mem_outs.1 hb).1,λx hx=>?_,λi b x hi hx=>?_,λb hy=>?_,aC _ _⟩
 ·obtain⟨i,hi⟩:=List.getElem?_of_mem hx
  have hil:i<(N.outs p l c).length:=by
   have:=(List.getElem?_eq_some_iff.1 hi).1
   rw[List.length_take]at this
   omega
  rw[get hil]at hi
  obtain rfl:=Option.some.inj hi
  exact(hco.2 l c (by omega) hll hcm _ i a _ (aN hin) (List.getElem?_eq_getElem hil)).bd
 ·rw[get (List.getElem?_eq_some_iff.1 hi).1]at hx
  have hx':=Option.some.inj hx
  obtain⟨o1,o2⟩:=ab.mem_outs.1 (List.mem_of_getElem? hi)
  unfold ab.prc
  rw[if_neg hl0,if_pos ⟨ha,by rw[hc];exact(ab.mem_ins.1 hin).2,o1,by rw[hc];exact o2⟩,ent hi,hx']
 ·unfold ab.prc at hy
  rw[if_neg hl0]at hy
  split at hy
  ·rename_i hh
   exact ab.mem_outs.2 ⟨hh.2.2.1,by rw[<-hc];exact hh.2.2.2⟩
  ·exact absurd hy (Int.lt_irrefl _)
end
namespace Eva
structure PA (h0:AH) (N:ab) (p:List (List Int)) (g o C q mp bf dn hp:Nat) (cA:Option Addr) (cK:Nat) (rd lp:Int) (D:Nat->Prop) (h:AH):Prop where
 nw:Nw h0 h
 blk:Bk h q [.pointer (some ⟨g,0,none⟩),.pointer (some ⟨o,0,none⟩),.slice (some ⟨C,0,none⟩) (N.size p) (cx (N.size p)),.slice cA p.length cK,.map (some mp),.pointer (some ⟨hp,0,none⟩),.slice (some ⟨bf,0,none⟩) N.na (cx N.na),.slice (some ⟨dn,0,none⟩) N.na (cx N.na),.int .i64 rd,.int .i64 lp] 139
 cells:Sa aY D h cA p.length cK p
 map_:∃f,dN kNN h mp f/\∀l c v,f (l,c)=some v->zQ N p D h l c v
 dlo:∀b,D b->h0.next<=b/\b<h.next/\b≠q/\b≠mp/\b≠bf/\b≠dn
 pos:h0.next<=q/\h0.next<=mp/\h0.next<=bf/\q≠mp/\q≠bf/\mp≠bf/\q<h.next/\mp<h.next/\bf<h.next/\h0.next<=dn/\dn<h.next/\dn≠q/\dn≠mp/\dn≠bf
section
variable {h h' h0:AH}{Q:Value->AH->Prop}{Fa F Fo:Nat->Prop}{N:ab}{p:List (List Int)}{g o C q mp bf dn hp:Nat}{cA:Option Addr}{cK:Nat}{rd lp:Int}{D:Nat->Prop}{a l:Nat}{costs:List Int}
theorem PA.off {S:Nat->Prop}(B:PA h0 N p g o C q mp bf dn hp cA cK rd lp D h) (m:Mt S h h') (hS:∀b,S b->h0.next<=b/\b≠q/\b≠mp/\¬D b):PA h0 N p g o C q mp bf dn hp cA cK rd lp D h':=by
 obtain⟨p1,p2,p3,p4,p5,p6,p7,p8,p9,p10,p11,p12⟩:=B.pos
 have z:=m.next
 have nD:∀{b},D b->¬S b:=λhd hs=>(hS _ hs).2.2.2 hd
 obtain⟨f,f1,f2⟩:=B.map_
 refine⟨m.is_nw B.nw λb hb=>(hS b hb).1,m.bk p7 (λhs=>(hS _ hs).2.1 rfl) B.blk,B.cells.off m λb hb=>nD hb,⟨f,f1.keep (m.get _ p8 (λhs=>(hS _ hs).2.2.1 rfl)),λl c v hv=>?_⟩,λb hb=>by have:=B.dlo b hb;omega,by omega⟩
 obtain⟨A,K,B',L,e,s1,s2⟩:=f2 l c v hv
 exact⟨A,K,B',L,e,s1.off m λb hb=>nD hb,s2.off m λb hb=>nD hb⟩
theorem PA.next (B:PA h0 N p g o C q mp bf dn hp cA cK rd lp D h) (a:Nw h h'):PA h0 N p g o C q mp bf dn hp cA cK rd lp D h':=B.off (S:=λ_=>False) (Mt.of a) (λb hb=>hb.elim)
theorem mf {k v c:Nat}(B:PA h0 N p g o C q mp bf dn hp cA cK rd lp D h) (hpo:ax N.nv p) (hk:1<=k) (hkl:k<=p.length) (hv:v<N.nv) (hc:cel p k v=c) (hK:Q (.tuple #[.int .i64 (c:Int),.bool true]) h) :
  WC Tryz.prog 156 [.pointer (some ⟨q,0,none⟩),.int .i64 k,.int .i64 v] h Q:=by
 have hp6:=hpo.few
 have hnv:=hpo.nv_
 have wl:IntKind.i64.wrap ((k:Int) - 1)=((k - 1:Nat):Int):=by rw[Int.natCast_sub hk];exact ah (by omega) (by omega)
 obtain⟨b3,o3,A3,n3,K3,row,hcA,-,-,hrow,r0,srow⟩:=B.cells.row (k:=k - 1) (by omega)
 obtain⟨hrl,hrx⟩:=cF hpo hrow
 have hn3:n3=N.nv:=by rw[<-srow.len];exact hrl
 subst hn3
 obtain⟨b4,o4,x9,hA3,-,-,hx9,r1⟩:=srow.int (k:=v) hv
 obtain⟨x9',hx9',x90,-⟩:=hrx v hv
 rw[hx9]at hx9'
 obtain rfl:=Option.some.inj hx9'
 obtain⟨c',rfl⟩:=Int.eq_ofNat_of_zero_le x90
 have hc':cel p k v=c':=by rw[cn hrow hx9];simp
 obtain rfl:c' = c:=hc'.symm.trans hc
 exact gZ ⟨λh=>absurd h (by omega),λ_=>⟨q,0,rfl,_,_,_,aa B.blk rfl,λh=>absurd h (by omega),λ_=>⟨λh=>absurd h (by omega),λ_=>⟨_,_,_,aa B.blk rfl,_,wl,k - 1,rfl,b3,o3,hcA,by omega,_,_,_,r0,λh=>absurd h (by omega),λ_=>⟨_,_,_,aa B.blk rfl,_,wl,k - 1,rfl,b3,o3,hcA,by omega,_,_,_,r0,v,rfl,b4,o4,hA3,hv,_,r1,hK⟩⟩⟩⟩⟩
theorem Dl (B:PA h0 N p g o C q mp bf dn hp cA cK rd lp D h) (G:GrA h0 Fa F g N) (O:OvA h0 Fo o N p) (bc:Bk h0 C (costs.map (Value.int .i64)) 2) (hC:C<h0.next) (hco:ch N p costs) (hsz:N.size p<1000000) (ha:a<N.na) (hll0:l<=p.length)
  (hK:∀(A4:Option Addr) (K4:Nat) (A5:Option Addr) (K5:Nat) (ol:List Nat) (pr:List Int) (D':Nat->Prop) (h':AH),lD N p costs l a ol pr->PA h0 N p g o C q mp bf dn hp cA cK rd lp D' h'->Sa cI (λb=>b<h0.next\/h.next<=b\/D b) h' A4 ol.length K4 (ints ol)->Sa cI (λb=>b<h0.next\/h.next<=b\/D b) h' A5 ol.length K5 pr->Mt (λb=>b=mp) h h'->(∀b,D b->D' b)->(∀b,D' b->D b\/h.next<=b)->
   Q (.tuple #[.slice A4 ol.length K4,.slice A5 ol.length K5]) h') :
  WC Tryz.prog 159 [.pointer (some ⟨q,0,none⟩),.int .i64 l,.int .i64 a] h Q:=by
 have hok:=G.ok
 have hpo:=O.hp
 have hna:=G.few.2
 have hto:=(ab.to_lt hok ha).1
 have hlen:=hco.1
 obtain⟨P1,P2,P3,P4,P5,P6,P7,P8,P9,P10,P11,P12⟩:=B.pos
 have hp6:=hpo.few
 refine jp ⟨q,0,rfl,_,aa B.blk rfl,aTo (G.nw B.nw) ha ⟨_,rfl,λhl0=>?_,λhl0=>?_⟩⟩
 ·have hl0':l=0:=by omega
  subst hl0'
  obtain⟨bs,hbs⟩:∃bs,N.from_ (N.to a)=bs:=⟨_,rfl⟩
  refine⟨_,aa B.blk rfl,Ch (G.nw B.nw) hto λA1 K1 h2 s2 k2=>⟨_,_,_,rfl,?_⟩⟩
  have hR:=uX (p:=p) (costs:=costs) (a:=a) hok
  have hbn:bs.length<=1000:=by rw[<-hbs];exact Nat.le_trans (aC _ _) hna
  rw[hbs]at s2 hR⊢
  obtain⟨ys,hys⟩:∃ys,(bs.map λb=>N.turn a b)=ys:=⟨_,rfl⟩
  have hyl:ys.length=bs.length:=by rw[<-hys];simp
  have z2':=k2.next
  refine⟨by omega,λh3 e3=>?_⟩
  obtain⟨k3,g3,z3⟩:=aj e3
  rw[a9]at g3
  refine⟨λm x h4=>∃i:Nat,x=i/\i<=bs.length/\m=bs.length - i/\Bk h4 h2.next ((ys.take i ++ List.replicate (ys.length - i) 0).map (Value.int .i64)) 2/\Nw h2 h4/\h2.next<h4.next,bs.length,⟨0,rfl,Nat.zero_le _,rfl,by simpa[hyl]using g3,k3,by omega⟩,?_⟩
  rintro m x h4 ⟨i,rfl,hi,rfl,b4,k4,hlt4⟩
  have k04:=k2.trans k4
  refine⟨λhlt=>?_,λhge=>?_⟩
  ·have hil:i<bs.length:=by omega
   obtain⟨b2,o2,x5,hA1,-,-,hx5,r0⟩:=(s2.nw k4).int (k:=i) hil
   obtain⟨b,hb⟩:∃b,bs[i]? = some b:=⟨_,List.getElem?_eq_getElem (by omega)⟩
   have hxb:x5=(b:Int):=by simp[ints,hb]at hx5;exact hx5.symm
   subst hxb
   have hbn':=hR.lt b (List.mem_of_getElem? hb)
   have hy:ys[i]? = some (N.turn a b):=by rw[<-hys,List.getElem?_map,hb];rfl
   refine⟨i,rfl,b2,o2,hA1,hil,_,r0,_,aa (B.next k04).blk rfl,Ci (G.nw (B.nw.trans k04)) ha hbn' λh5 k5=>⟨_,rfl,hil,?_⟩⟩
   have b5:=k5.bk hlt4 b4
   have z5:=k5.next
   have z4:=k4.next
   obtain⟨h6,s6,b6,z6,o6⟩:=cH b5 (k:=i) (by rw[List.length_append,List.length_take,List.length_replicate];omega) (N.turn a b)
   rw[tB (xs:=[]) hy]at b6
   exact⟨h6,s6,_,ah (by omega) (by omega),bs.length - (i+1),by omega,i+1,by omega,hil,rfl,b6,⟨by omega,λb hb=>(o6 b (by omega)).trans ((k5.get b (by omega)).trans (k4.get b hb))⟩,by omega⟩
  ·obtain rfl:i=bs.length:=by omega
   rw[<-hyl,Nat.sub_self,List.take_length,List.replicate_zero,List.append_nil]at b4
   have:=hK A1 K1 (some ⟨h2.next,0,none⟩) (cx bs.length) bs ys D h4 (by rw[<-hys];exact hR) (B.next k04) ((s2.nw k4).mono λb hb _=>.inr (.inl hb)) (Sa.of_ints b4 hyl (.inr (.inl z2')) hlt4) (Mt.of k04) (λb hb=>hb) (λb hb=>.inl hb)
   exact this
 ·have hl1:1<=l:=by omega
  have hll:l<=p.length:=hll0
  obtain⟨c,hc⟩:∃c,cel p l (N.to a)=c:=⟨_,rfl⟩
  have hcm:c<ap p l:=by rw[<-hc];exact cE hpo hl1 hll hto
  obtain⟨f,f1,f2⟩:=B.map_
  obtain⟨ig,hig,hzg⟩:=Ed
  have hlook:=f1.look (e:=46) Ec hig hzg (by kernel_rfl) (l,c) true
  have nil:∀(D':Nat->Prop) (h':AH),(a ∉ N.ins p l c\/N.outs p l c = [])->PA h0 N p g o C q mp bf dn hp cA cK rd lp D' h'->Mt (λb=>b=mp) h h'->(∀b,D b->D' b)->(∀b,D' b->D b\/h.next<=b)->Q (.tuple #[.slice none 0 0,.slice none 0 0]) h':=λD' h' hn hq hm hd1 hd2=>
   hK none 0 none 0 [] [] D' h' (uY (by omega) (by rw[hc];exact hn)) hq ⟨rfl,.inl ⟨rfl,rfl,rfl⟩,λh=>absurd h (Nat.lt_irrefl _)⟩ ⟨rfl,.inl ⟨rfl,rfl,rfl⟩,λh=>absurd h (Nat.lt_irrefl _)⟩ hm hd1 hd2
  refine mf B hpo hl1 hll hto hc ⟨_,_,rfl,λ_=>⟨_,aa B.blk rfl,?_⟩,λh=>Bool.noConfusion h⟩
  obtain⟨ni,hni⟩:∃ni,(N.ins p l c).length=ni:=⟨_,rfl⟩
  obtain⟨no,hno⟩:∃no,(N.outs p l c).length=no:=⟨_,rfl⟩
  have hni2:ni<=1000:=by rw[<-hni];exact Nat.le_trans (aC _ _) hna
  have hno2:no<=1000:=by rw[<-hno];exact Nat.le_trans (aC _ _) hna
  have hse:=ab.start_end (N:=N) (p:=p) (k:=l) hl1 hll hcm
  unfold ab.sz at hse
  rw[hni,hno]at hse
  have main:∀(h9:AH) (D':Nat->Prop) (A6 A7:Option Addr) (K6 K7:Nat),PA h0 N p g o C q mp bf dn hp cA cK rd lp D' h9->Mt (λb=>b=mp) h h9->(∀b,D b->D' b)->(∀b,D' b->D b\/h.next<=b)->h.next<h9.next->Bk h9 h.next [.slice A6 ni K6,.slice A7 no K7] 46->Sa cI D' h9 A7 no K7 (ints (N.outs p l c))->∀h10,a∈N.ins p l c->N.outs p l c≠[]->Nw h9 h10->
    ∃(A:Option Addr) (n:Nat) (K:Nat),ldC h10 h.next 1=some (.slice A n K)/\∃x12:Int,IntKind.i64.wrap (((N.start p l c+(N.ins p l c).idxOf a*no:Nat):Int)+(n:Int))=x12/\∃(A8:Option Addr) (n8:Nat) (K8:Nat),ldC h10 q (0+2)=some (.slice A8 n8 K8)/\(((n8:Int):Int)<x12->Q (.tuple #[.slice none 0 0,.slice none 0 0]) h10)/\(¬(((n8:Int):Int)<x12)->∃(A9:Option Addr) (n9:Nat) (K9:Nat),ldC h10 h.next 1=some (.slice A9 n9 K9)/\∃(A10:Option Addr) (n10:Nat) (K10:Nat),ldC h10 q (0+2)=some (.slice A10 n10 K10)/\∃(A11:Option Addr) (n11:Nat) (K11:Nat),ldC h10 h.next 1=some (.slice A11 n11 K11)/\∃x13:Int,IntKind.i64.wrap (((N.start p l c+(N.ins p l c).idxOf a*no:Nat):Int)+(n11:Int))=x13/\∃k4:Nat,((N.start p l c+(N.ins p l c).idxOf a*no:Nat):Int)=(k4:Int)/\∃k5:Nat,x13=(k5:Int)/\∃(A12:Option Addr) (n12 K12:Nat),aE Tryz.prog 2 A10 n10 K10 (some k4) (some k5) none=some (.slice A12 n12 K12)/\aZ (.slice A11 n11 K11)/\aZ (.slice A10 n10 K10)/\Q (.tuple #[.slice A9 n9 K9,.slice A12 n12 K12]) h10):=by
   intro h9 D' A6 A7 K6 K7 B9 m9 hd1 hd2 hlt9 gb so h10 hin hne k10
   have hidx:=List.idxOf_lt_length_of_mem hin
   have hmul:((N.ins p l c).idxOf a+1)*no<=ni*no:=Nat.mul_le_mul_right _ (by rw[<-hni];exact hidx)
   rw[Nat.succ_mul]at hmul
   have hpos:0<no:=by rw[<-hno];cases hx:N.outs p l c with | nil=>exact absurd hx hne | cons x l=>simp
   obtain⟨lo,hlo⟩:∃lo,N.start p l c+(N.ins p l c).idxOf a*no=lo:=⟨_,rfl⟩
   rw[hlo]
   have wlo:IntKind.i64.wrap ((lo:Int)+(no:Int))=((lo+no:Nat):Int):=by rw[Int.natCast_add];exact ah (by omega) (by omega)
   have B10:=B9.next k10
   have gb10:=k10.bk hlt9 gb
   have hsl:=wg (P:=Tryz.prog) (e:=2) (C:=C) (n:=N.size p) (lo:=lo) (hi:=lo+no) zN (by omega) (by omega) (.inl (by omega))
   rw[Nat.add_sub_cancel_left]at hsl
   refine⟨_,_,_,aa gb10 rfl,_,wlo,_,_,_,aa B10.blk rfl,λh=>absurd h (by omega),λ_=>⟨_,_,_,aa gb10 rfl,_,_,_,aa B10.blk rfl,_,_,_,aa gb10 rfl,_,wlo,lo,rfl,lo+no,rfl,_,_,_,hsl,so.eqok,rfl,?_⟩⟩
   have hR:=tK hok hpo hco ha (by omega) hll hc hin
   rw[hno,hlo]at hR
   have hE:∀b,D' b->(b<h0.next\/h.next<=b\/D b):=λb hb=>(hd2 b hb).elim (λh=>.inr (.inr h)) (λh=>.inr (.inl h))
   have m10:=m9.nw k10
   have:=hK A7 K7 (some ⟨C,lo,none⟩) (cx (N.size p - lo)) (N.outs p l c) _ D' h10 hR B10 (by rw[hno];exact(so.nw k10).mono λb hb _=>hE b hb) (by rw[hno];exact xO (B10.nw.bk hC bc) (by have:=B10.nw.next;omega) (.inl hC) (by omega) _) m10 hd1 hd2
   rw[hno]at this
   exact this
  cases hf:f (l,c) with
  | some v=>
   obtain⟨A6,K6,A7,K7,rfl,s6,s7⟩:=f2 l c v hf
   rw[hni]at s6
   rw[hno]at s7
   rw[hf,hni,hno]at hlook
   refine⟨_,_,_,_,_,_,_,hlook,λ_ h7 e7=>?_,λh=>Bool.noConfusion h⟩
   obtain⟨h8,s8,k8,g8,z8⟩:=ay (vs:=[.slice A6 ni K6,.slice A7 no K7]) e7 rfl (dR rfl rfl)
   have B8:=B.next k8
   refine⟨h8,s8,_,_,_,aa g8 rfl,ie a (s6.nw k8) (aV _ _) (by omega) ⟨_,rfl,_,aa B8.blk rfl,Ee (O.nw B8.nw) hl1 hll hcm (λh10 hn k10=>⟨_,rfl,λ_=>nil D h10 hn (B8.next k10) (Mt.of (k8.trans k10)) (λb hb=>hb) (λb hb=>.inl hb),λ_=>⟨λ_=>nil D h10 hn (B8.next k10) (Mt.of (k8.trans k10)) (λb hb=>hb) (λb hb=>.inl hb),λh=>absurd (show(-1:Int)<0 by omega) h⟩⟩) (λh10 hin hne k10=>⟨_,rfl,λh=>absurd h (by have:=dZ.2 hin;omega),λ_=>⟨λh=>absurd h (by omega),λ_=>?_⟩⟩)⟩⟩
   have:=main h8 D A6 A7 K6 K7 B8 (Mt.of k8) (λb hb=>hb) (λb hb=>.inl hb) (by omega) g8 (s7.nw k8) h10 hin hne k10
   rw[hno]
   exact this
  | none=>
   rw[hf]at hlook
   refine⟨none,0,0,none,0,0,_,hlook,λh=>Bool.noConfusion h,λ_ h11 e11=>?_⟩
   obtain⟨h12,s12,k12,g12,z12⟩:=ay (vs:=[.slice none 0 0,.slice none 0 0]) e11 rfl (dR rfl rfl)
   have B12:=B.next k12
   refine⟨h12,s12,_,aa B12.blk rfl,tj (O.nw B12.nw) hl1 hll hcm λA6 K6 A7 K7 h13 s6 s7 k13=>⟨_,_,_,_,_,_,rfl,?_⟩⟩
   rw[hni]at s6⊢
   rw[hno]at s7⊢
   have z13:=k13.next
   obtain⟨h14,s14,b14,z14,o14⟩:=bI (vs:=[.slice A6 ni K6,.slice A7 no K7]) (k13.bk (by omega) g12) rfl (dR rfl rfl)
   have k14:Nw h h14:=⟨by omega,λb hb=>(o14 b (by omega)).trans ((k13.get b (by omega)).trans (k12.get b hb))⟩
   have B14:=B.next k14
   obtain⟨h15,y1,y2,y3,y4⟩:=(f1.keep (h':=h14) (k14.get _ P8)).put (P:=Tryz.prog) (e:=46) Ec (l,c) (.agg #[.slice A6 ni K6,.slice A7 no K7])
   have m15:Mt (λb=>b=mp) h14 h15:=⟨by omega,λb _ hb=>y4 b hb⟩
   have s6':Sa cI (λb=>h12.next<=b/\b<h13.next) h15 A6 ni K6 (ints (N.ins p l c)):=((s6.mono λb hb hlt=>⟨hb,hlt⟩).keep (h':=h14) (λb hb _=>o14 b (by omega)) (by omega)).off m15 λb hb e=>by omega
   have s7':Sa cI (λb=>h12.next<=b/\b<h13.next) h15 A7 no K7 (ints (N.outs p l c)):=((s7.mono λb hb hlt=>⟨hb,hlt⟩).keep (h':=h14) (λb hb _=>o14 b (by omega)) (by omega)).off m15 λb hb e=>by omega
   have B15:PA h0 N p g o C q mp bf dn hp cA cK rd lp (λb=>D b\/(h12.next<=b/\b<h13.next)) h15:=by
    refine⟨m15.is_nw B14.nw λb hb=>by omega,m15.bk (by omega) P4 B14.blk,(B14.cells.off m15 λb hb e=>(B.dlo b hb).2.2.2.1 e).mono λb hb _=>.inl hb,⟨_,y2,λl' c' v hv=>?_⟩,λb hb=>?_,by omega⟩
    ·by_cases e:(l',c')=(l,c)
     ·rw[if_pos e]at hv
      obtain rfl:=Option.some.inj hv
      injection e with e1 e2
      subst e1 e2
      exact⟨A6,K6,A7,K7,by rw[hni,hno],by rw[hni];exact s6'.mono λb hb _=>.inr hb,by rw[hno];exact s7'.mono λb hb _=>.inr hb⟩
     ·rw[if_neg e]at hv
      obtain⟨A,K,A',L,e',x1,x2⟩:=f2 l' c' v hv
      exact⟨A,K,A',L,e',(((x1.nw k14).off m15 λb hb e=>(B.dlo b hb).2.2.2.1 e)).mono λb hb _=>.inl hb,(((x2.nw k14).off m15 λb hb e=>(B.dlo b hb).2.2.2.1 e)).mono λb hb _=>.inl hb⟩
    ·rcases hb with hb | hb
     ·have:=B.dlo b hb;omega
     ·omega
   have b15:=m15.bk (by omega) (by omega) b14
   have m015:Mt (λb=>b=mp) h h15:=(Mt.of k14).then m15
   have hd1:∀b,D b->(D b\/(h12.next<=b/\b<h13.next)):=λb hb=>.inl hb
   have hd2:∀b,(D b\/(h12.next<=b/\b<h13.next))->D b\/h.next<=b:=λb hb=>hb.imp id λh=>by omega
   refine⟨h14,s14,_,aa B14.blk rfl,_,_,_,_,_,_,bY b14 (by simp),h15,y1,_,_,_,aa b15 rfl,ie a s6' (aV _ _) (by omega) ⟨_,rfl,_,aa B15.blk rfl,Ee (O.nw B15.nw) hl1 hll hcm (λh10 hn k10=>⟨_,rfl,λ_=>nil _ h10 hn (B15.next k10) (m015.nw k10) hd1 hd2,λ_=>⟨λ_=>nil _ h10 hn (B15.next k10) (m015.nw k10) hd1 hd2,λh=>absurd (show(-1:Int)<0 by omega) h⟩⟩) (λh10 hin hne k10=>⟨_,rfl,λh=>absurd h (by have:=dZ.2 hin;omega),λ_=>⟨λh=>absurd h (by omega),λ_=>?_⟩⟩)⟩⟩
   have:=main h15 _ A6 A7 K6 K7 B15 m015 hd1 hd2 (by omega) b15 (s7'.mono λb hb _=>.inr hb) h10 hin hne k10
   rw[hno]
   exact this
end
end Eva
end
section
open Go Go.RowKit
namespace Eva
end Eva
end
section
open Go Go.RowKit
def EK (N:ab) (c:Nat) (ol:List Nat) (pr:List Int) (i:Nat):Option (Nat×Nat):=
 match ol[i]?,pr[i]? with
 | some b,some x=>if CW [(c:Int),x,N.w b]<INF then some (b,(CW [(c:Int),x,N.w b]).toNat) else none
 | _,_=>none
def Em (N:ab) (c:Nat) (ol:List Nat) (pr:List Int) (j:Nat):List (Nat×Nat):=(List.range j).filterMap (EK N c ol pr)
theorem En {c x w:Int}(hc:0<=c/\c<=INF) (hx:0<=x/\x<=INF) (hw:0<=w/\w<=INF):CW [c,x,w]=min (c+x+w) INF:=by
 unfold INF at *
 show cM (cM (cM 0 c) x) w=_
 rw[ib,ib,ib,bX (a:=0) (by omega) (by omega),bX hc.1 hc.2,bX hx.1 hx.2,bX hw.1 hw.2,bX (a:=min (0+c) 1152921504606846976) (by omega) (by omega),bX (a:=min (min (0+c) 1152921504606846976+x) 1152921504606846976) (by omega) (by omega)]
 omega
theorem EN {N:ab}{c n b y:Nat}{ol:List Nat}{pr:List Int}:(b,y)∈Em N c ol pr n↔∃i x,i<n/\ol[i]? = some b/\pr[i]? = some x/\CW [(c:Int),x,N.w b]<INF/\y=(CW [(c:Int),x,N.w b]).toNat:=by
 unfold Em
 rw[List.mem_filterMap]
 constructor
 ·rintro⟨i,hi,h⟩
  unfold EK at h
  cases h1:ol[i]? with
  | none=>rw[h1]at h;cases h
  | some b'=>
   cases h2:pr[i]? with
   | none=>rw[h1,h2]at h;cases h
   | some x=>
    rw[h1,h2]at h
    simp only at h
    by_cases h3:CW [(c:Int),x,N.w b']<INF
    ·rw[if_pos h3]at h
     obtain h4:=Option.some.inj h
     injection h4 with h5 h6
     subst h5
     exact⟨i,x,by simpa using hi,h1,h2,h3,h6.symm⟩
    ·rw[if_neg h3]at h;cases h
 ·rintro⟨i,x,hi,h1,h2,h3,rfl⟩
  refine⟨i,by simpa using hi,?_⟩
  unfold EK
  rw[h1,h2]
  simp only
  rw[if_pos h3]
section
variable {N:ab}{p:List (List Int)}{costs:List Int}{s t a c:Nat}{ol:List Nat}{pr:List Int}
theorem wv.put (hR:wv N p costs s t a ol pr) (hok:N.Ok) (hc:c<aM){b x:Nat}(h:N.le p costs s t a b=some x) (hx:c+x<aM):(b,c+x)∈Em N c ol pr ol.length:=by
 obtain⟨i,y,h1,h2,h3,h4,rfl⟩:=hR.all b x h
 have hy:=hR.nn y (List.mem_of_getElem? h2)
 have hw:=ab.w_bd hok b
 have h5:=En (c:=(c:Int)) (x:=y) (w:=N.w b) (by unfold INF aM at *;omega) hy (by unfold INF at *;omega)
 refine EN.2 ⟨i,y,(List.getElem?_eq_some_iff.1 h1).1,h1,h2,?_,?_⟩
 ·rw[h5];unfold INF aM at *;omega
 ·rw[h5];unfold INF aM at *;omega
theorem wv.step (hR:wv N p costs s t a ol pr) (hok:N.Ok) (hc:c<aM){b y:Nat}(h:(b,y)∈Em N c ol pr ol.length):y<aM/\b<N.na/\∃x,N.le p costs s t a b=some x/\y=c+x:=by
 obtain⟨i,x,hi,h1,h2,h3,rfl⟩:=EN.1 h
 have hy:=hR.nn x (List.mem_of_getElem? h2)
 have hw:=ab.w_bd hok b
 have h5:=En (c:=(c:Int)) (x:=x) (w:=N.w b) (by unfold INF aM at *;omega) hy (by unfold INF at *;omega)
 rw[h5]at h3⊢
 refine⟨by unfold INF aM at *;omega,hR.lt b (List.mem_of_getElem? h1),_,hR.here i b x h1 h2 (by unfold INF at *;omega) (by unfold INF at *;omega),by unfold INF at *;omega⟩
end
theorem BM {par:Nat->Nat}{k a n:Nat}(hk:k<n):((List.range n).map λb=>((par b:Nat):Int)).set k (a:Int)=(List.range n).map λb=>((upd par k a b:Nat):Int):=by
 apply List.ext_getElem?
 intro i
 rw[List.getElem?_set]
 by_cases e:k=i
 ·subst e
  simp[hk,upd]
 ·simp only[if_neg e,List.getElem?_map]
  by_cases hi:i<n
  ·simp[List.getElem?_range hi,upd,Ne.symm e]
  ·rw[List.getElem?_eq_none (by simpa using hi)];rfl
namespace Eva
end Eva
end
section
open Go Go.RowKit
namespace Eva
def rF (par:Nat->Nat) (n:Nat):List Int:=(List.range n).map λb=>((par b:Nat):Int)
def Eo (done:Nat->Option Nat) (n:Nat):List Bool:=(List.range n).map λa=>(done a).isSome
structure RA (h0:AH) (q mp bf DN hp n:Nat) (D:Nat->Prop) (done w:Nat->Option Nat) (par:Nat->Nat) (h:AH):Prop where
 dn:Bk h DN ((Eo done n).map Value.bool) 4
 bf_:Bk h bf ((rF par n).map (Value.int .i64)) 3
 heap:∃S,bh h S hp n w/\∀b,S b->h0.next<=b/\b<h.next/\b≠q/\b≠mp/\b≠bf/\b≠DN/\¬D b
 pos:h0.next<=DN/\DN<h.next/\DN≠q/\DN≠mp/\DN≠bf/\bf<h.next/\¬D DN
section
variable {h h' h0:AH}{Q:Value->AH->Prop}{Fa F Fo:Nat->Prop}{N:ab}{p:List (List Int)}{g o C s t q mp bf DN hp n:Nat}{cA:Option Addr}{cK:Nat}{D D':Nat->Prop}{costs:List Int}{done w:Nat->Option Nat}{par:Nat->Nat}
theorem RA.next (R:RA h0 q mp bf DN hp n D done w par h) (a:Nw h h'):RA h0 q mp bf DN hp n D done w par h':=by
 obtain⟨p1,p2,p3,p4,p5,p6,p7⟩:=R.pos
 obtain⟨S,H,hS⟩:=R.heap
 have z:=a.next
 exact⟨a.bk p2 R.dn,a.bk p6 R.bf_,⟨S,H.nw a,λb hb=>by have:=hS b hb;exact⟨this.1,by omega,this.2.2⟩⟩,p1,by omega,p3,p4,p5,by omega,p7⟩
theorem RA.grow (R:RA h0 q mp bf DN hp n D done w par h) (m:Mt (λb=>b=mp) h h') (hD:∀b,D' b->D b\/h.next<=b) (hbf:bf≠mp):RA h0 q mp bf DN hp n D' done w par h':=by
 obtain⟨p1,p2,p3,p4,p5,p6,p7⟩:=R.pos
 obtain⟨S,H,hS⟩:=R.heap
 have z:=m.next
 refine⟨m.bk p2 p4 R.dn,m.bk p6 hbf R.bf_,⟨S,H.off m λb hb e=>(hS b hb).2.2.2.1 e,λb hb=>?_⟩,p1,by omega,p3,p4,p5,by omega,λhd=>(hD _ hd).elim p7 (λh=>by omega)⟩
 obtain⟨s1,s2,s3,s4,s5,s6,s7⟩:=hS b hb
 exact⟨s1,by omega,s3,s4,s5,s6,λhd=>(hD b hd).elim s7 (λh=>by omega)⟩
theorem uZ (dn:Nat->Option Nat) (k:Nat) (l:List (Nat×Nat)) (x:Nat×Nat) (st:(Nat->Option Nat)×(Nat->Nat)):bR dn k (l ++ [x]) st=bV dn k (bR dn k l st) x:=by
 unfold bR
 rw[List.foldl_append];rfl
end
end Eva
end
section
open Go Go.RowKit
def ab.atK (N:ab) (p:List (List Int)) (k c a:Nat):Prop:=k=1\/N.kidIn p k c a
open Classical in
noncomputable def stO (N:ab) (p:List (List Int)) (k cell t c:Nat) (ol:List Nat) (pr:List Int) (i:Nat):Option (Nat×Nat):=
 match ol[i]?,pr[i]? with
 | some b,some x=>if b=t then(if cM (c:Int) x<INF then some (b,(cM (c:Int) x).toNat) else none) else if N.win p k cell b/\cM (cM (c:Int) x) (N.w b)<INF then some (b,(cM (cM (c:Int) x) (N.w b)).toNat) else none
 | _,_=>none
noncomputable def stP (N:ab) (p:List (List Int)) (k cell t c:Nat) (ol:List Nat) (pr:List Int) (j:Nat):List (Nat×Nat):=(List.range j).filterMap (stO N p k cell t c ol pr)
section
variable {N:ab}{p:List (List Int)}{costs:List Int}{k cell t c a m x:Nat}{ol:List Nat}{pr:List Int}
theorem tL (j:Nat):stP N p k cell t c ol pr (j+1)=stP N p k cell t c ol pr j ++ (stO N p k cell t c ol pr j).toList:=by
 unfold stP
 rw[List.range_succ,List.filterMap_append]
 cases h:stO N p k cell t c ol pr j <;>simp[List.filterMap_cons,h]
theorem u9 {c x:Int}(hc:0<=c/\c<=INF) (hx:0<=x/\x<=INF):cM c x=min (c+x) INF:=by
 unfold INF at *
 rw[ib,bX hc.1 hc.2,bX hx.1 hx.2]
theorem Dm (hok:N.Ok) (hp:ax N.nv p) (h1:1<=k) (hkl:k<=p.length) (ha:a<N.na) (h:N.inA p k cell a):N.atK p k cell a:=by
 by_cases hk:k=1
 ·exact .inl hk
 ·exact .inr (j7 hok hp (by omega) hkl (ab.mem_ins.2 ⟨ha,h⟩))
theorem tM (h1:1<=k) (ha:N.atK p k cell a) (ht:t∈N.outs p k cell):lvO N p k cell (N.ent p costs) a t=some x↔N.prc p costs (k - 1) a t<INF/\x=(N.prc p costs (k - 1) a t).toNat:=by
 unfold lvO
 by_cases hk:k=1
 ·subst hk
  rw[if_pos rfl]
  unfold ab.prc
  rw[if_pos rfl]
  exact ab.tr_some
 ·have hk1:k - 1≠0:=by omega
  have hka:=ha.resolve_left hk
  have htn:=(ab.mem_outs.1 ht).1
  rw[if_neg hk,dI]
  unfold ab.prc
  rw[if_neg hk1]
  constructor
  ·rintro⟨g1,g2,g3,g4,rfl⟩
   rw[if_pos ⟨g1.1,g1.2.2,htn,(ab.mem_outs.1 g3).2⟩]
   exact⟨g4,rfl⟩
  ·intro h
   split at h
   ·rename_i hh
    exact⟨hka,ht,ab.mem_outs.2 hh.2.2,h.1,h.2⟩
   ·exact absurd h.1 (Int.lt_irrefl _)
theorem tN (hok:N.Ok) (hp:ax N.nv p) (h1:1<=k) (hkl:k<=p.length) (ha:N.atK p k cell a):lvE N p k cell (N.ent p costs) a m=some x↔N.win p k cell m/\N.prc p costs (k - 1) a m<INF/\N.w m<INF/\x=(N.prc p costs (k - 1) a m).toNat+(N.w m).toNat:=by
 unfold lvE
 by_cases hk:k=1
 ·subst hk
  rw[if_pos rfl]
  unfold ab.prc
  rw[if_pos rfl]
  by_cases hw:N.win p 1 cell m
  ·rw[if_pos hw,ab.e_some]
   exact⟨λh=>⟨hw,h⟩,λh=>h.2⟩
  ·rw[if_neg hw]
   exact⟨λh=>by(cases h),λh=>absurd h.1 hw⟩
 ·have hk1:k - 1≠0:=by omega
  have hka:=ha.resolve_left hk
  rw[if_neg hk]
  unfold ab.prc
  rw[if_neg hk1]
  constructor
  ·intro h
   obtain⟨g1,g2,g3,g4,g5,g6,g7,rfl⟩:=j8 hok hp (by omega) hkl h
   rw[if_pos ⟨g1.1,g4,g3,g5⟩]
   exact⟨g2,g6,g7,rfl⟩
  ·rintro⟨hw,h2,h3,h4⟩
   split at h2
   ·rename_i hh
    rw[if_pos hh]at h4
    exact dH.2 ⟨hka,ab.mem_outs.2 hh.2.2,λh=>(ab.mem_outs.1 h).2.2 hw.2,h2,h3,h4⟩
   ·exact absurd h2 (Int.lt_irrefl _)
theorem Ag (hok:N.Ok) (hp:ax N.nv p) (hkl:k<=p.length) (h1:1<=k) (h:lvE N p k cell (N.ent p costs) a m=some x):N.atK p k cell m:=by
 by_cases hk:k=1
 ·exact .inl hk
 ·unfold lvE at h
  rw[if_neg hk]at h
  obtain⟨g1,g2,g3,g4,g5,-⟩:=j8 hok hp (by omega) hkl h
  exact .inr ⟨g3,g2.2,rfl,λe=>g5.2 (by rw[<-e];exact g5.1)⟩
theorem lD.put (hR:lD N p costs (k - 1) a ol pr) (hok:N.Ok) (hp:ax N.nv p) (h1:1<=k) (hkl:k<=p.length) (ha:N.atK p k cell a) (ht:t∈N.outs p k cell) (hc:c<aM){b:Nat}(h:opE (lvE N p k cell (N.ent p costs)) (lvO N p k cell (N.ent p costs)) t a b=some x) (hx:c+x<aM) :
  (b,c+x)∈stP N p k cell t c ol pr ol.length:=by
 have fin:∀b,N.prc p costs (k - 1) a b<INF->∃i,i<ol.length/\ol[i]? = some b/\pr[i]? = some (N.prc p costs (k - 1) a b)/\0<=N.prc p costs (k - 1) a b:=λb hb=>by
  obtain⟨i,hi⟩:=List.getElem?_of_mem (hR.all b hb)
  have hil:=(List.getElem?_eq_some_iff.1 hi).1
  have hpi:pr[i]? = some (pr[i]'(by rw[hR.len];exact hil)):=List.getElem?_eq_getElem _
  have e:=hR.here i b _ hi hpi
  have n0:=hR.nn _ (List.mem_of_getElem? hpi)
  rw[e]at hpi n0
  exact⟨i,hil,hi,hpi,n0.1⟩
 unfold stP
 rw[List.mem_filterMap]
 unfold opE at h
 by_cases hb:b=t
 ·subst hb
  rw[if_pos rfl]at h
  obtain⟨g1,rfl⟩:=(tM h1 ha ht).1 h
  obtain⟨i,i1,i2,i3,i4⟩:=fin b g1
  refine⟨i,by simpa using i1,?_⟩
  unfold stO
  rw[i2,i3]
  simp only
  have e:=u9 (c:=(c:Int)) (x:=N.prc p costs (k - 1) a b) (by unfold INF aM at *;omega) (by unfold INF at *;omega)
  rw[if_pos trivial,e,if_pos (by unfold INF aM at *;omega)]
  congr 2
  unfold INF aM at *
  omega
 ·rw[if_neg hb]at h
  obtain⟨g0,g1,g2,rfl⟩:=(tN hok hp h1 hkl ha).1 h
  obtain⟨i,i1,i2,i3,i4⟩:=fin b g1
  refine⟨i,by simpa using i1,?_⟩
  unfold stO
  rw[i2,i3]
  simp only
  have hw:=ab.w_bd hok b
  have e:=u9 (c:=(c:Int)) (x:=N.prc p costs (k - 1) a b) (by unfold INF aM at *;omega) (by unfold INF at *;omega)
  have e2:=u9 (c:=cM (c:Int) (N.prc p costs (k - 1) a b)) (x:=N.w b) (by rw[e];unfold INF aM at *;omega) (by unfold INF at *;omega)
  rw[if_neg hb,if_pos ⟨g0,by rw[e2,e];unfold INF aM at *;omega⟩,e2,e]
  congr 2
  unfold INF aM at *
  omega
theorem lD.step (hR:lD N p costs (k - 1) a ol pr) (hok:N.Ok) (hp:ax N.nv p) (h1:1<=k) (hkl:k<=p.length) (ha:N.atK p k cell a) (ht:t∈N.outs p k cell) (hc:c<aM){b y:Nat}(h:(b,y)∈stP N p k cell t c ol pr ol.length) :
  y<aM/\b<N.na/\∃x,opE (lvE N p k cell (N.ent p costs)) (lvO N p k cell (N.ent p costs)) t a b=some x/\y=c+x:=by
 unfold stP at h
 obtain⟨i,-,h2⟩:=List.mem_filterMap.1 h
 unfold stO at h2
 cases hi:ol[i]? with
 | none=>rw[hi]at h2;cases h2
 | some b'=>
  cases hj:pr[i]? with
  | none=>rw[hi,hj]at h2;cases h2
  | some z=>
   rw[hi,hj]at h2
   simp only at h2
   have hz:=hR.nn z (List.mem_of_getElem? hj)
   have hzp:=hR.here i b' z hi hj
   have hbn:=hR.lt b' (List.mem_of_getElem? hi)
   have e:=u9 (c:=(c:Int)) (x:=z) (by unfold INF aM at *;omega) hz
   by_cases hb:b' = t
   ·rw[if_pos hb]at h2
    split at h2
    ·rename_i hlt
     have h3:=Option.some.inj h2
     injection h3 with h4 h5
     subst h4
     rw[e]at hlt h5
     refine⟨by unfold INF aM at *;omega,hbn,z.toNat,?_,by unfold INF at *;omega⟩
     unfold opE
     rw[if_pos hb]
     subst hb
     exact(tM h1 ha ht).2 ⟨by rw[<-hzp];unfold INF at *;omega,by rw[hzp]⟩
    ·cases h2
   ·rw[if_neg hb]at h2
    split at h2
    ·rename_i hlt
     obtain⟨g0,hlt⟩:=hlt
     have hw:=ab.w_bd hok b'
     have e2:=u9 (c:=cM (c:Int) z) (x:=N.w b') (by rw[e];unfold INF aM at *;omega) (by unfold INF at *;omega)
     have h3:=Option.some.inj h2
     injection h3 with h4 h5
     subst h4
     rw[e2,e]at hlt h5
     refine⟨by unfold INF aM at *;omega,hbn,z.toNat+(N.w b').toNat,?_,by unfold INF at *;omega⟩
     unfold opE
     rw[if_neg hb]
     exact(tN hok hp h1 hkl ha).2 ⟨g0,by rw[<-hzp];unfold INF at *;omega,by unfold INF at *;omega,by rw[hzp]⟩
    ·cases h2
end
end
section
open Go Go.RowKit
namespace Eva
section
variable {h h' h0:AH}{Q:Value->AH->Prop}{Fa F Fo:Nat->Prop}{N:ab}{p:List (List Int)}{g o C q mp bf dn hp:Nat}{cA:Option Addr}{cK:Nat}{rd lp:Int}{D:Nat->Prop}{a k cell s t:Nat}{costs:List Int}{A:Option Addr}{n K:Nat}{xs:List Int}
theorem Ah {b:Nat}(B:PA h0 N p g o C q mp bf dn hp cA cK rd lp D h) (G:GrA h0 Fa F g N) (hpo:ax N.nv p) (hk:1<=k) (hkl:k<=p.length) (hb:b<N.na) (hK:∀y:Bool,(y=true↔N.win p k cell b)->Q (.bool y) h) :
  WC Tryz.prog 160 [.pointer (some ⟨q,0,none⟩),.int .i64 k,.int .i64 cell,.int .i64 b] h Q:=by
 have G1:=G.nw B.nw
 refine hU ⟨q,0,rfl,_,aa B.blk rfl,pV G1 hb ⟨_,rfl,mf B hpo hk hkl (ab.fr_lt G.ok hb).1 rfl ⟨_,_,rfl,λ_=>⟨_,aa B.blk rfl,aTo G1 hb ⟨_,rfl,mf B hpo hk hkl (ab.to_lt G.ok hb).1 rfl ⟨_,_,rfl,λ_=>⟨λe1=>⟨λe2=>?_,λe2=>?_⟩,λe1=>?_⟩,λh=>Bool.noConfusion h⟩⟩⟩,λh=>Bool.noConfusion h⟩⟩⟩
 ·exact hK true ⟨λ_=>⟨by omega,by omega⟩,λ_=>rfl⟩
 ·exact hK false ⟨λh=>Bool.noConfusion h,λh=>absurd h.2 (by omega)⟩
 ·exact hK false ⟨λh=>Bool.noConfusion h,λh=>absurd h.1 (by omega)⟩
theorem xQ (o:al cI h (af A) 3 A n K xs) (hn:n<=100000) (hK:∀h',Sa cI (af A) h' A n K xs.reverse->Mt (af A) h h'->h'.next=h.next->Q (.tuple #[]) h'):WC Tryz.prog 226 [.slice A n K] h Q:=by
 obtain⟨hl,ho'⟩:=o
 have ho:(A=none/\n=0)\/∃g,A=some ⟨g,0,none⟩/\g<h.next/\Bk h g (xs.map (Value.int .i64)) 3:=by
  rcases ho' with⟨rfl,rfl,_⟩ | ⟨g,cells,rfl,-,h2,h3,h4,-,-,h7⟩
  ·exact .inl ⟨rfl,rfl⟩
  ·refine .inr ⟨g,rfl,h2,?_⟩
   have:cells=xs.map (Value.int .i64):=by
    apply List.ext_getElem?
    intro i
    by_cases hi:i<n
    ·have hx:xs[i]? = some (xs[i]'(by omega)):=List.getElem?_eq_getElem _
     have h8:(cells.drop (i*1)).take 1 = [.int .i64 (xs[i]'(by omega))]:=h7 i _ hx
     rw[List.getElem?_map,hx]
     have h9:=congrArg (λl=>l[0]?) h8
     simpa using h9
    ·rw[List.getElem?_eq_none (by rw[h4];show n*1<=i;omega),List.getElem?_eq_none (by simp;omega)]
   rw[<-this]
   exact h3
 have w0:IntKind.i64.wrap ((n:Int) - 1)=(n:Int) - 1:=ah (by omega) (by omega)
 refine fm ⟨_,w0,λm x y h1=>∃(i:Nat) (ws:List Int),x=i/\y=(n:Int) - 1 - i/\i<=n/\m=n - i/\ws.length=n/\(∀k,k<n->ws[k]? = if k<i\/n<=k+i then xs[n - 1 - k]? else xs[k]?)/\(∀g,A=some ⟨g,0,none⟩->Bk h1 g (ws.map (Value.int .i64)) 3)/\h1.next=h.next/\(∀b,¬af A b->h1.get b=h.get b),n,⟨0,xs,rfl,by omega,Nat.zero_le _,rfl,hl,λk hk=>by rw[if_neg (by omega)],λg hA=>?_,rfl,λ_ _=>rfl⟩,?_⟩
 ·rcases ho with⟨h1,_⟩ | ⟨g',h1,_,h3⟩
  ·rw[h1]at hA;cases hA
  ·rw[h1]at hA
   injection hA with hA
   injection hA with hA
   subst hA
   exact h3
 rintro m x y h1 ⟨i,ws,rfl,rfl,hi,rfl,hwl,hws,hb,hz,hoth⟩
 refine⟨λhlt=>?_,λhge=>?_⟩
 ·obtain⟨g,rfl,hg⟩:∃g,A=some ⟨g,0,none⟩/\g<h.next:=by
   rcases ho with⟨_,h1⟩ | ⟨g,h1,h2,_⟩
   ·omega
   ·exact⟨g,h1,h2⟩
  have b1:=hb g rfl
  obtain⟨j,hj⟩:∃j,n - 1 - i=j:=⟨_,rfl⟩
  obtain⟨u,hu⟩:∃u,ws[j]? = some u:=⟨_,List.getElem?_eq_getElem (by omega)⟩
  obtain⟨v,hv⟩:∃v,ws[i]? = some v:=⟨_,List.getElem?_eq_getElem (by omega)⟩
  have wi:IntKind.i64.wrap ((i:Int)+1)=((i+1:Nat):Int):=by rw[Int.natCast_succ];exact ah (by omega) (by omega)
  have wj:IntKind.i64.wrap ((j:Int) - 1)=(n:Int) - 1 - ((i+1:Nat):Int):=by
   rw[ah (by omega) (by omega)];omega
  obtain⟨h2,s2,b2,z2,o2⟩:=cH b1 (k:=i) (by omega) u
  obtain⟨h3,s3,b3,z3,o3⟩:=cH b2 (k:=j) (by simp;omega) v
  refine⟨j,by omega,g,0,rfl,by omega,_,iH b1 hu,i,rfl,by omega,_,iH b1 hv,by omega,h2,s2,by omega,h3,s3,_,wi,_,wj,n - (i+1),by omega,i+1,(ws.set i u).set j v,rfl,rfl,by omega,rfl,by simp[hwl],λk hk=>?_,λg' hA=>?_,by omega,λb hn=>(o3 b (λe=>hn e)).trans ((o2 b (λe=>hn e)).trans (hoth b hn))⟩
  ·rw[List.getElem?_set,List.getElem?_set]
   have e1:=hws i (by omega)
   have e2:=hws j (by omega)
   rw[if_neg (by omega),hv]at e1
   rw[if_neg (by omega),hu]at e2
   by_cases k1:j=k
   ·subst k1
    rw[if_pos rfl,if_pos (by simp;omega),if_pos (by omega)]
    rw[e1]
    congr 1
    omega
   ·rw[if_neg k1]
    by_cases k2:i=k
    ·subst k2
     rw[if_pos rfl,if_pos (by omega),if_pos (by omega),e2]
     congr 1
     omega
    ·rw[if_neg k2,hws k hk]
     by_cases k3:k<i\/n<=k+i
     ·rw[if_pos k3,if_pos (by omega)]
     ·rw[if_neg k3,if_neg (by omega)]
  ·injection hA with hA
   injection hA with hA
   subst hA
   exact b3
 ·have hrev:ws=xs.reverse:=by
   apply List.ext_getElem?
   intro k
   by_cases hk:k<n
   ·rw[hws k hk,List.getElem?_reverse (by omega),hl]
    by_cases k3:k<i\/n<=k+i
    ·rw[if_pos k3]
    ·rw[if_neg k3]
     congr 1
     omega
   ·rw[List.getElem?_eq_none (by omega),List.getElem?_eq_none (by simp;omega)]
  subst hrev
  refine hK h1 ?_ ⟨by omega,λb _ hn=>hoth b hn⟩ hz
  rcases ho with⟨rfl,rfl⟩ | ⟨g,rfl,hg,-⟩
  ·have:xs = []:=List.eq_nil_of_length_eq_zero hl
   subst this
   rcases ho' with⟨_,_,rfl⟩ | ⟨g,_,h9,_⟩
   ·exact⟨rfl,.inl ⟨rfl,rfl,rfl⟩,λh=>absurd h (Nat.lt_irrefl _)⟩
   ·cases h9
  ·exact Sa.of_ints (k:=.i64) (F:=af (some ⟨g,0,none⟩)) (hb g rfl) hwl rfl (by omega)
theorem Dn (B:PA h0 N p g o C q mp bf dn hp cA cK rd lp D h) (hna:N.na<=1000) (hs:s<N.na) (ht:t<N.na) (hst:s≠t){kE kO:Nat->Nat->Option Nat}{par rank:Nat->Nat}{done w:Nat->Option Nat}{cnt c:Nat}(hb:Bk h bf ((rF par N.na).map (Value.int .i64)) 3)
  (hP:Par aM (opE kE kO t) s done w par rank cnt) (hdn:∀a x,done a=some x->a<N.na) (hcnt:cnt<=1000) (hw:w t=some c) (hnt:done t=none)
  (hK:∀(A:Option Addr) (K:Nat) (l:List Nat) (h':AH),Sa cI (λb=>h.next<=b) h' A l.length K (ints l)->bp kE kO (λ_=>True) t s c l->l.Nodup->l.length<=cnt+1->Nw h h'->Q (.slice A l.length K) h') :
  WC Tryz.prog 158 [.pointer (some ⟨q,0,none⟩),.int .i64 s,.int .i64 t] h Q:=by
 obtain⟨P1,P2,P3,P4,P5,P6,P7,P8,P9,-⟩:=B.pos
 refine jo ⟨λm A1 n1 K1 x h1=>∃(b cb:Nat) (l:List Nat),x=b/\b<N.na/\al cI h1 (af A1) 3 A1 n1 K1 (ints l)/\(∀z,af A1 z->h.next<=z)/\Nw h h1/\n1+m<=cnt+1/\(b=s->cb=0)/\(b≠s->∃ca y,done (par b)=some ca/\opE kE kO t (par b) b=some y/\cb=ca+y/\rank (par b)<m/\(b=t\/rank (par b)<rank b))/\
  ((b=t/\l = []/\cb=c)\/(b≠t/\∃cr,bp kE kO (λ_=>True) t b cr l.reverse/\cb+cr=c))/\l.Nodup/\∀z∈l,z=t\/rank b<rank z,cnt+1,⟨t,c,[],rfl,ht,al.nil _ _ _ _,λz hz=>hz.elim,Nw.refl _,by omega,λe=>hP.zero c (.inr (e ▸ hw)),λe=>?_,.inl ⟨rfl,rfl,rfl⟩,List.nodup_nil,λz hz=>by cases hz⟩,?_⟩
 ·obtain⟨ca,y,h1,h2,h3⟩:=hP.step t c e (.inr hw)
  exact⟨ca,y,h1,h2,h3,by have:=hP.rank_lt _ _ h1;omega,.inl rfl⟩
 rintro m A1 n1 K1 x h1 ⟨b,cb,l,rfl,hbn,o1,lo1,k1,hm,hbs,hbp,hsuf,hnd,hrk⟩
 have B1:=B.next k1
 have hl:l.length=n1:=by have:=o1.1;simpa[ints]using this
 refine⟨λhe=>?_,λhne=>?_⟩
 ·have he':b=s:=by omega
  subst he'
  obtain rfl:=hbs rfl
  rcases hsuf with⟨e,-⟩ | ⟨-,cr,hR,hc⟩
  ·exact absurd e hst
  ·obtain rfl:cr=c:=by omega
   refine xQ o1 (by omega) λh2 s2 m2 z2=>?_
   have e:(ints l).reverse=ints l.reverse:=by simp[ints]
   rw[e]at s2
   have:=hK A1 K1 l.reverse h2 (by rw[List.length_reverse,hl];exact s2.mono λz hz _=>lo1 z hz) hR (List.pairwise_reverse.2 (hnd.imp λh=>Ne.symm h)) (by rw[List.length_reverse];omega) (m2.is_nw k1 lo1)
   rw[List.length_reverse,hl]at this
   exact⟨rfl,this⟩
 ·obtain⟨ca,y,h2,h3,h4,h5,hdb⟩:=hbp (λe=>hne (by rw[e]))
  have hpn:=hdn _ _ h2
  have hpt:par b≠t:=λe=>by rw[e,hnt]at h2;cases h2
  refine λh3' e3=>?_
  obtain⟨k3,g3,z3⟩:=aj e3
  have hz:Sz cI (λz=>z=h1.next) h3' (some ⟨h1.next,0,none⟩) 1 2 [(b:Int)]:=Sz.one g3 rfl (by omega) rfl rfl
  obtain⟨A',K',h4',y1,y2,y3,y4⟩:=aX (r:=cI) (c9 _) dK (o1.nw k3) hz (by omega) (by omega)
  have z1:=k1.next
  have z4:=y3.next
  have k4:Nw h h4':=y3.is_nw (k1.trans k3) lo1
  have B4:=B.next k4
  refine⟨A',n1+1,K',h4',y1,q,0,rfl,_,_,_,aa B4.blk rfl,b,rfl,bf,0,rfl,hbn,(par b:Nat),?_,rank (par b),h5,par b,ca,l ++ [b],rfl,hpn,?_,λz hz=>(y4 z hz).elim (lo1 z) (λh=>by omega),k4,by omega,λe=>hP.zero ca (.inl (e ▸ h2)),λe=>?_,.inr ⟨hpt,?_⟩,?_,?_⟩
  ·rw[aP (k4.bk P9 hb),Nat.zero_add]
   simp[rF,hbn]
  ·have e:ints (l ++ [b])=ints l ++ [(b:Int)]:=by simp[ints]
   rw[e]
   exact y2
  ·obtain⟨ca',y',q1,q2,q3⟩:=hP.step _ ca e (.inl h2)
   exact⟨ca',y',q1,q2,q3,hP.earlier _ ca e h2,.inr (hP.earlier _ ca e h2)⟩
  ·rw[List.reverse_append]
   rcases hsuf with⟨rfl,rfl,rfl⟩ | ⟨hbt,cr,hR,hc⟩
   ·refine⟨y,.last ?_,by omega⟩
    unfold opE at h3
    rw[if_pos rfl]at h3
    exact h3
   ·refine⟨y+cr,.on ?_ trivial hR,by omega⟩
    unfold opE at h3
    rw[if_neg hbt]at h3
    exact h3
  ·rw[List.nodup_append]
   refine⟨hnd,List.pairwise_singleton _ _,λu hu u' hu' e=>?_⟩
   have hu2:u' = b:=by simpa using hu'
   rw[e,hu2]at hu
   rcases hsuf with⟨-,hl0,-⟩ | ⟨hbt,-⟩
   ·rw[hl0]at hu;cases hu
   ·rcases hrk _ hu with e | e
    ·exact hbt e
    ·omega
  ·intro u hu
   rcases List.mem_append.1 hu with hu | hu
   ·rcases hsuf with⟨-,hl0,-⟩ | ⟨hbt,-⟩
    ·rw[hl0]at hu;cases hu
    ·rcases hrk _ hu with e | e
     ·exact .inl e
     ·right
      rcases hdb with h | h
      ·exact absurd h hbt
      ·omega
   ·have hu2:u=b:=by simpa using hu
    rw[hu2]
    exact hdb
end
end Eva
end
section
open Go Go.RowKit
theorem va {N:ab}{p:List (List Int)}{costs:List Int}(hok:N.Ok) (hp:ax N.nv p) (hco:ch N p costs){k s t:Nat}(h1:1<=k) (hkl:k<=p.length) (hs:s<N.na) (hin:N.inA p k (cel p k (N.to s)) s) (ht:t∈N.outs p k (cel p k (N.to s))) :
  fE N (N.win p k (cel p k (N.to s))) s t (N.ent p costs k s t):=by
 have:=ab.mem_outs.1 ht
 exact hco.entOk hok hp k s t h1 hkl hs this.1 hin this.2
namespace Eva
structure RP (h0:AH) (q mp bf dn hp n:Nat) (D S:Nat->Prop) (rd:Int) (done w:Nat->Option Nat) (par:Nat->Nat) (h:AH):Prop where
 dnb:∃dl:List Int,Bk h dn (dl.map (Value.int .i64)) 3/\dl.length=n/\(∀a x,dl[a]? = some x->(x=rd↔(done a).isSome=true))/\∀x∈dl,x<=rd
 bf_:Bk h bf ((rF par n).map (Value.int .i64)) 3
 heap:bh h S hp n w
 sep:∀b,S b->h0.next<=b/\b<h.next/\b≠q/\b≠mp/\b≠bf/\b≠dn/\¬D b
section
variable {h h' h0:AH}{Q:Value->AH->Prop}{Fa F Fo:Nat->Prop}{N:ab}{p:List (List Int)}{g o C q mp bf dn hp n:Nat}{cA:Option Addr}{cK:Nat}{rd lp:Int}{D D' S S':Nat->Prop}{a k cell s t:Nat}{costs:List Int}{done w:Nat->Option Nat}{par:Nat->Nat}
theorem rG {S:Nat->Prop}{hp n:Nat}{w:Nat->Option Nat}(H:bh h S hp n w):∀b,S b->b<h.next:=λb hb=>by
 obtain⟨row,costs',A',K',Bc,Bs,seats,-,-,-,q4⟩:=H
 exact q4 b hb
theorem RP.grow (R:RP h0 q mp bf dn hp n D S rd done w par h) (hpos:dn<h.next/\bf<h.next/\dn≠mp/\bf≠mp) (m:Mt (λb=>b=mp) h h') (hD:∀b,D' b->D b\/h.next<=b):RP h0 q mp bf dn hp n D' S rd done w par h':=by
 obtain⟨dl,d1,d2⟩:=R.dnb
 have z:=m.next
 refine⟨⟨dl,m.bk hpos.1 hpos.2.2.1 d1,d2⟩,m.bk hpos.2.1 hpos.2.2.2 R.bf_,R.heap.off m λb hb e=>(R.sep b hb).2.2.2.1 e,λb hb=>?_⟩
 obtain⟨s1,s2,s3,s4,s5,s6,s7⟩:=R.sep b hb
 exact⟨s1,by omega,s3,s4,s5,s6,λhd=>(hD b hd).elim s7 (λh=>by omega)⟩
theorem Do (B:PA h0 N p g o C q mp bf dn hp cA cK rd lp D h) (R:RP h0 q mp bf dn hp N.na D S rd done w par h) (G:GrA h0 Fa F g N) (O:OvA h0 Fo o N p) (bc:Bk h0 C (costs.map (Value.int .i64)) 2) (hC:C<h0.next) (hco:ch N p costs) (hsz:N.size p<1000000)
  (h1:1<=k) (hkl:k<=p.length) (hs:s<N.na) (hcell:cel p k (N.to s)=cell) (hin:N.inA p k cell s) (ht:t∈N.outs p k cell) (hent:N.ent p costs k s t<INF) (hrd:0<=rd/\rd<=9000000000000000000)
  (hK:∀(A:Option Addr) (K:Nat) (l:List Nat) (D' S':Nat->Prop) (done' w':Nat->Option Nat) (par':Nat->Nat) (h':AH),Sa cI (λb=>h.next<=b/\¬D' b/\¬S' b) h' A l.length K (ints l)->bp (lvE N p k cell (N.ent p costs)) (lvO N p k cell (N.ent p costs)) (λ_=>True) t s (N.ent p costs k s t).toNat l->l.Nodup->l.length<=N.na+1->
   PA h0 N p g o C q mp bf dn hp cA cK (rd+1) lp D' h'->RP h0 q mp bf dn hp N.na D' S' (rd+1) done' w' par' h'->Mt (λb=>b=q\/b=mp\/b=bf\/b=dn\/S b) h h'->(∀b,D' b->D b\/h.next<=b)->(∀b,S' b->S b\/h.next<=b)->Q (.tuple #[.slice A l.length K,.bool true]) h') :
  WC Tryz.prog 89 [.pointer (some ⟨q,0,none⟩),.int .i64 k,.int .i64 s,.int .i64 t] h Q:=by
 have hok:=G.ok
 have hpo:=O.hp
 have hna:=G.few.2
 have hto:=(ab.to_lt hok hs).1
 obtain⟨htn,hta⟩:=ab.mem_outs.1 ht
 have hst:s≠t:=λe=>hta.2 (by rw[<-e];exact hin.1)
 obtain⟨P1,P2,P3,P4,P5,P6,P7,P8,P9,P10,P11,P12,P13,P14⟩:=B.pos
 have TH:fE N (N.win p k cell) s t (N.ent p costs k s t):=by
  have:=va (costs:=costs) hok hpo hco h1 hkl hs (by rw[hcell];exact hin) (by rw[hcell];exact ht)
  rw[hcell]at this
  exact this
 have val:∀v:Nat,hZ aM (opE (lvE N p k cell (N.ent p costs)) (lvO N p k cell (N.ent p costs)) t) s t v->(v:Int)=N.ent p costs k s t:=λv hv=>
  (Bh hok hpo (hco.entOk hok hpo) h1 hkl hs hin hta hst hv).one TH
 have hp6:=hpo.few
 refine iK ⟨q,0,rfl,_,aa B.blk rfl,aTo (G.nw B.nw) hs ⟨_,rfl,mf B hpo h1 hkl hto hcell ⟨_,_,rfl,λ_=>⟨_,aa B.blk rfl,zA R.heap λh3 H3 m3 z3=>⟨rfl,?_⟩⟩,λh=>Bool.noConfusion h⟩⟩⟩
 have hSn:∀b,S b->h0.next<=b/\b≠q/\b≠mp/\¬D b:=λb hb=>by
  obtain⟨s1,s2,s3,s4,s5,s6,s7⟩:=R.sep b hb
  exact⟨s1,s3,s4,s7⟩
 have B3:=B.off m3 hSn
 obtain⟨h4,s4,b4,z4,o4⟩:=aA (v:=.int .i64 (rd+1)) B3.blk (o:=8) (by simp) rfl
 refine⟨rd,aa B3.blk rfl,rd+1,ah (by omega) (by omega),h4,by rw[Nat.zero_add];exact s4,?_⟩
 have m4:Mt (λb=>b=q) h3 h4:=⟨by omega,λb _ hb=>o4 b hb⟩
 have B4:PA h0 N p g o C q mp bf dn hp cA cK (rd+1) lp D h4:=by
  obtain⟨f,f1,f2⟩:=B3.map_
  have nD:∀b,D b->¬b=q:=λb hd=>(B3.dlo b hd).2.2.1
  refine⟨m4.is_nw B3.nw λb hb=>by omega,b4,B3.cells.off m4 nD,⟨f,f1.keep (o4 _ (Ne.symm P4)),λl c v hv=>?_⟩,λb hb=>by have:=B3.dlo b hb;omega,by omega⟩
  obtain⟨A,K,B',L,e,s1,s2⟩:=f2 l c v hv
  exact⟨A,K,B',L,e,s1.off m4 nD,s2.off m4 nD⟩
 have H4:bh h4 S hp N.na (λ_=>none):=H3.off m4 λb hb e=>(R.sep b hb).2.2.1 e
 refine⟨_,aa b4 rfl,Bn H4 hs (Int.le_refl _) (by omega) λh5 S5 H5 m5 g5=>⟨_,rfl,?_⟩⟩
 have z5:=m5.next
 have S5lt:=rG H5
 have S5o:∀b,S5 b->S b\/h.next<=b:=λb hb=>(g5 b hb).elim .inl (λh=>.inr (by omega))
 have B5:PA h0 N p g o C q mp bf dn hp cA cK (rd+1) lp D h5:=B4.off m5 hSn
 obtain⟨dl,d1,d2,d3,d4⟩:=R.dnb
 have R5:RP h0 q mp bf dn hp N.na D S5 (rd+1) (λ_=>none) (λb=>if b=s then some 0 else none) par h5:=by
  have keep:∀{b},b<h.next->b≠q->¬S b->h5.get b=h.get b:=fun {b} hb hq hS=>(m5.get b (by omega) hS).trans ((o4 b hq).trans (m3.get b hb hS))
  refine⟨⟨dl,(keep P11 P12 (λhs=>(R.sep _ hs).2.2.2.2.2.1 rfl)).trans d1,d2,λa x hx=>?_,λx hx=>by have:=d4 x hx;omega⟩,(keep P9 (Ne.symm P5) (λhs=>(R.sep _ hs).2.2.2.2.1 rfl)).trans R.bf_,H5,λb hb=>?_⟩
  ·have:=d4 x (List.mem_of_getElem? hx)
   exact⟨λe=>absurd e (by omega),λe=>Bool.noConfusion e⟩
  ·have hlt:=S5lt b hb
   rcases g5 b hb with hb | hb
   ·obtain⟨s1,s2,s3,s4,s5,s6,s7⟩:=R.sep b hb
    exact⟨s1,hlt,s3,s4,s5,s6,s7⟩
   ·have:=B.nw.next
    exact⟨by omega,hlt,by omega,by omega,by omega,by omega,λhd=>by have:=(B.dlo b hd).2.1;omega⟩
 have mt05:Mt (λb=>b=q\/b=mp\/b=bf\/b=dn\/S b) h h5:=⟨by omega,λb hb hn=>(m5.get b (by omega) (λhs=>hn (.inr (.inr (.inr (.inr hs)))))).trans ((o4 b (λe=>hn (.inl e))).trans (m3.get b hb (λhs=>hn (.inr (.inr (.inr (.inr hs)))))))⟩
 obtain⟨eO,heO⟩:∃eO,eO=opE (lvE N p k cell (N.ent p costs)) (lvO N p k cell (N.ent p costs)) t:=⟨_,rfl⟩
 rw[<-heO]at val
 refine⟨λm h6=>∃(done w:Nat->Option Nat) (par rank:Nat->Nat) (D6 S6:Nat->Prop),PA h0 N p g o C q mp bf dn hp cA cK (rd+1) lp D6 h6/\RP h0 q mp bf dn hp N.na D6 S6 (rd+1) done w par h6/\Dij aM eO s done (gG aM w)/\Par aM eO s done w par rank (eA done N.na)/\(∀b c,w b=some c->c<aM/\(b=t\/N.atK p k cell b))/\(∀a c,done a=some c->a<N.na)/\done t=none/\((done=(λ_=>none)/\w=λb=>if b=s then some 0 else none)\/done s≠none)/\m=N.na - eA done N.na/\Mt (λb=>b=q\/b=mp\/b=bf\/b=dn\/S b) h h6/\(∀b,D6 b->D b\/h.next<=b)/\(∀b,S6 b->S b\/h.next<=b),N.na,⟨λ_=>none,_,par,λ_=>0,D,S5,B5,R5,?_,?_,λb c hb=>?_,(λa c h=>by cases h),rfl,.inl ⟨rfl,rfl⟩,?_,mt05,λb hb=>.inl hb,S5o⟩,?_⟩
 ·rw[od];exact Dij.new (by unfold aM;omega)
 ·have e:eA (λ_=>none) N.na=0:=by simp[eA]
  rw[e]
  exact Par.start rfl rfl _ _
 ·by_cases e:b=s
  ·simp[e]at hb
   exact⟨by unfold aM;omega,.inr (by rw[e];exact Dm hok hpo h1 hkl hs hin)⟩
  ·simp[e]at hb
 ·have e:eA (λ_=>none) N.na=0:=by simp[eA]
  rw[e];rfl
 rintro m h6 ⟨done,w,par,rank,D6,S6,B6,R6,hD,hPr,hwI,hdn,hdt,hst6,rfl,mt6,hD6,hS6⟩
 have hfin:gG aM w=w:=by
  funext b
  unfold gG
  cases hb:w b with
  | none=>rfl
  | some c=>simp[(hwI b c hb).1]
 obtain⟨p61,p62,p63,p64,p65,p66,p67,p68,p69,p610,p611,p612,p613,p614⟩:=B6.pos
 refine⟨_,aa B6.blk rfl,DR R6.heap (λhq=>?_) (λa c h7 hkN hqk hmin H7 m7 z7=>?_)⟩
 ·exfalso
  have:=hD.over (λb c hb=>by rw[hq b]at hb;cases hb) t
  rw[hdt]at this
  have:=val _ this
  simp only[Option.getD_none]at this
  unfold INF aM at *
  omega
 obtain⟨hcI,hka⟩:=hwI a c hqk
 have offS:∀b,S6 b->h0.next<=b/\b≠q/\b≠mp/\¬D6 b:=λb hb=>by have:=R6.sep b hb;exact⟨this.1,this.2.2.1,this.2.2.2.1,this.2.2.2.2.2.2⟩
 have B7:=B6.off m7 offS
 obtain⟨dl6,e1,e2,e3,e4⟩:=R6.dnb
 have dn7:=m7.bk p611 (λhs=>(R6.sep _ hs).2.2.2.2.2.1 rfl) e1
 have bf7:=m7.bk p69 (λhs=>(R6.sep _ hs).2.2.2.2.1 rfl) R6.bf_
 have hcn:eA done N.na<=N.na:=rz _ _
 have mt7:Mt (λb=>b=q\/b=mp\/b=bf\/b=dn\/S b) h h7:=⟨by have:=mt6.next;omega,λb hb hn=>(m7.get b (by have:=mt6.next;omega) (λhs=>(hS6 b hs).elim (λh=>hn (.inr (.inr (.inr (.inr h))))) (λh=>by omega))).trans (mt6.get b hb hn)⟩
 refine⟨_,_,_,rfl,λ_=>⟨λhe=>?_,λhne=>?_⟩,λh=>Bool.noConfusion h⟩
 ·obtain rfl:a=t:=by omega
  have hL:hZ aM eO s a c:=hD.found (by rw[hfin];exact hqk) (λb c' hb=>hmin b c' (by rw[hfin]at hb;exact hb))
  have hv:=val c hL
  have hz7:=mt7.next
  refine Dn B7 hna hs htn hst (kE:=lvE N p k cell (N.ent p costs)) (kO:=lvO N p k cell (N.ent p costs)) (cnt:=eA done N.na) bf7 (by rw[<-heO];exact hPr) hdn (by omega) hqk hdt λA K l h8 s8 r8 nd8 l8 k8=>⟨_,_,_,rfl,?_⟩
  have hz8:=k8.next
  exact hK A K l D6 S6 done (del w a) par h8 (s8.mono λb hb _=>⟨by omega,λhd=>by have:=(B6.dlo b hd).2.1;omega,λhs=>by have:=(R6.sep b hs).2.1;omega⟩) (by rw[<-hv,Int.toNat_natCast];exact r8) nd8 (by omega) (B7.next k8) ⟨⟨dl6,k8.bk (by omega) dn7,e2,e3,e4⟩,k8.bk (by omega) bf7,H7.nw k8,λb hb=>by have:=R6.sep b hb;exact⟨this.1,by omega,this.2.2⟩⟩ (mt7.nw k8) hD6 hS6
 ·have hat:a≠t:=λe=>hne (by rw[e])
  have hka':N.atK p k cell a:=hka.resolve_left hat
  have hdk:done a=none:=(hD.wait a c (by rw[hfin];exact hqk)).2.2
  obtain⟨h9,s9,b9,z9,o9⟩:=cH dn7 (k:=a) (by omega) (rd+1)
  obtain⟨dx,hdx⟩:∃dx,dx=upd done a (some c):=⟨_,rfl⟩
  have m79:Mt (λb=>b=dn) h7 h9:=⟨by omega,λb _ hb=>o9 b hb⟩
  have B9:=B7.off m79 λb hb=>by subst hb;exact⟨p610,p612,p613,λhd=>(B6.dlo _ hd).2.2.2.2.2 rfl⟩
  have R9:RP h0 q mp bf dn hp N.na D6 S6 (rd+1) dx (del w a) par h9:=by
   refine⟨⟨dl6.set a (rd+1),b9,by simp[e2],λb x hx=>?_,λx hx=>?_⟩,(o9 _ (Ne.symm p614)).trans bf7,H7.off m79 λb hb e=>(R6.sep b hb).2.2.2.2.2.1 e,λb hb=>by have:=R6.sep b hb;exact⟨this.1,by omega,this.2.2⟩⟩
   ·rw[List.getElem?_set]at hx
    rw[hdx]
    simp only[upd]
    by_cases e:a=b
    ·rw[if_pos e]at hx
     rw[if_pos e.symm]
     split at hx
     ·obtain rfl:=Option.some.inj hx
      exact⟨λ_=>rfl,λ_=>rfl⟩
     ·cases hx
    ·rw[if_neg e]at hx
     rw[if_neg (Ne.symm e)]
     exact e3 b x hx
   ·rcases List.mem_or_eq_of_mem_set hx with h | rfl
    ·exact e4 x h
    ·exact Int.le_refl _
  refine⟨_,_,_,aa B7.blk rfl,_,aa B7.blk rfl,a,rfl,dn,0,rfl,hkN,h9,s9,((k - 1:Nat):Int),by rw[Int.natCast_sub h1];exact ah (by omega) (by omega),Dl B9 G O bc hC hco hsz hkN (by omega) λA4 K4 A5 K5 ol pr D' h10 hR B10 s4 s5 m10 hd1 hd2=>⟨_,_,_,_,_,_,rfl,?_⟩⟩
  have z10:=m10.next
  have hll:=hR.len
  have hlf:=hR.few
  have R10:=R9.grow (by omega) m10 hd2
  obtain⟨st,hst_⟩:∃st:Nat->(Nat->Option Nat)×(Nat->Nat),∀j,st j=bR dx a (stP N p k cell t c ol pr j) (del w a,par):=⟨_,λ_=>rfl⟩
  have st0:st 0=(del w a,par):=hst_ 0
  obtain⟨E,hE⟩:∃E:Nat->Prop,∀b,E b↔(b<h0.next\/h9.next<=b\/D6 b)/\b<h10.next:=⟨_,λ_=>Iff.rfl⟩
  have s4':Sa cI E h10 A4 ol.length K4 (ints ol):=s4.mono λb hb hlt=>(hE b).2 ⟨hb,hlt⟩
  have s5':Sa cI E h10 A5 ol.length K5 pr:=s5.mono λb hb hlt=>(hE b).2 ⟨hb,hlt⟩
  have hS6E:∀b,S6 b->¬E b:=λb hb he=>by
   have h1:=(hE b).1 he
   have h2:=R6.sep b hb
   rcases h1.1 with h | h | h
   ·omega
   ·omega
   ·exact h2.2.2.2.2.2.2 h
  have hbfE:¬E bf:=λhe=>by
   have h1:=(hE bf).1 he
   rcases h1.1 with h | h | h
   ·omega
   ·omega
   ·exact(B6.dlo bf h).2.2.2.2.1 rfl
  have hz7:=mt7.next
  have mt9:Mt (λb=>b=q\/b=mp\/b=bf\/b=dn\/S b) h h9:=⟨by omega,λb hb hn=>(o9 b (λe=>hn (.inr (.inr (.inr (.inl e)))))).trans (mt7.get b hb hn)⟩
  have mt10:Mt (λb=>b=q\/b=mp\/b=bf\/b=dn\/S b) h h10:=⟨by omega,λb hb hn=>(m10.get b (by omega) (λe=>hn (.inr (.inl e)))).trans (mt9.get b hb hn)⟩
  have hD':∀b,D' b->D b\/h.next<=b:=λb hb=>(hd2 b hb).elim (hD6 b) (λh=>.inr (by omega))
  obtain⟨J,hJ⟩:∃J:Nat->Int->AH->Prop,∀m x h',J m x h'↔∃(j:Nat) (S7:Nat->Prop),x=j/\j<=ol.length/\m=ol.length - j/\h10.next<=h'.next/\PA h0 N p g o C q mp bf dn hp cA cK (rd+1) lp D' h'/\RP h0 q mp bf dn hp N.na D' S7 (rd+1) dx (st j).1 (st j).2 h'/\(∀b,S7 b->S6 b\/h10.next<=b)/\Sa cI E h' A4 ol.length K4 (ints ol)/\Sa cI E h' A5 ol.length K5 pr/\Mt (λb=>b=q\/b=mp\/b=bf\/b=dn\/S b) h h':=⟨_,λ_ _ _=>Iff.rfl⟩
  refine⟨J,ol.length,(hJ _ _ _).2 ⟨0,S6,rfl,Nat.zero_le _,rfl,Nat.le_refl _,B10,by rw[st0];exact R10,λb hb=>.inl hb,s4',s5',mt10⟩,λm3 x8 h11 hj=>?_⟩
  obtain⟨j,S7,rfl,hj,rfl,hz11,B11,R11,hS7,t4,t5,mt11⟩:=(hJ _ _ _).1 hj
  have hSE:∀b,S7 b->¬E b:=λb hb he=>(hS7 b hb).elim (λh=>hS6E b h he) (λh=>by have:=(hE b).1 he;omega)
  have hSo:∀b,S7 b->S b\/h.next<=b:=λb hb=>(hS7 b hb).elim (hS6 b) (λh=>.inr (by omega))
  obtain⟨q1,q2,q3,q4,q5,q6,q7,q8,q9,q10,q11,q12,q13,q14⟩:=B11.pos
  refine⟨λhlt=>?_,λhge=>?_⟩
  ·obtain⟨b2,o2,x9,rfl,hF2,hb2,hx9,e9⟩:=t4.int (k:=j) (by omega)
   obtain⟨b3,o3,x10,rfl,hF3,hb3,hx10,e10⟩:=t5.int (k:=j) (by omega)
   obtain⟨bn,hbn,rfl⟩:∃bn:Nat,ol[j]? = some bn/\x9=(bn:Int):=by
    unfold ints at hx9
    rw[List.getElem?_map]at hx9
    cases hv:ol[j]? with
    | none=>rw[hv]at hx9;cases hx9
    | some bn=>rw[hv]at hx9;exact⟨bn,rfl,(Option.some.inj hx9).symm⟩
   have hbl:=hR.lt bn (List.mem_of_getElem? hbn)
   have hx:=hR.nn x10 (List.mem_of_getElem? hx10)
   have hw:=ab.w_bd hok bn
   have e1:=u9 (c:=(c:Int)) (x:=x10) (by unfold INF aM at *;omega) hx
   have fin:∀(h':AH) (S':Nat->Prop),Mt (λb=>S7 b\/b=bf) h11 h'->(∀b,S' b->S7 b\/h11.next<=b)->bh h' S' hp N.na (st (j+1)).1->Bk h' bf ((rF (st (j+1)).2 N.na).map (Value.int .i64)) 3->WR ((j:Int)+1) λx=>RE (ol.length - j) (J · x h'):=λh' S' mm hS' H' bf'=>by
    have hz:=mm.next
    obtain⟨dl,c1,c2⟩:=R11.dnb
    have bfs:¬S7 bf:=λhs=>(R11.sep _ hs).2.2.2.2.1 rfl
    refine⟨((j+1:Nat):Int),by rw[Int.natCast_succ];exact ah (by omega) (by omega),ol.length - (j+1),by omega,(hJ _ _ _).2 ⟨j+1,S',rfl,by omega,rfl,by omega,B11.off mm λb hb=>?_,⟨⟨dl,mm.bk q11 (λhs=>hs.elim (λh=>(R11.sep _ h).2.2.2.2.2.1 rfl) (λe=>q14 e)) c1,c2⟩,bf',H',λb hb=>?_⟩,λb hb=>(hS' b hb).elim (hS7 b) (λh=>.inr (by omega)),t4.off mm λb hb hs=>hs.elim (λh=>hSE b h hb) (λe=>hbfE (e ▸ hb)),t5.off mm λb hb hs=>hs.elim (λh=>hSE b h hb) (λe=>hbfE (e ▸ hb)),?_⟩⟩
    ·rcases hb with hb | rfl
     ·have:=R11.sep b hb
      exact⟨this.1,this.2.2.1,this.2.2.2.1,this.2.2.2.2.2.2⟩
     ·exact⟨q3,Ne.symm q5,Ne.symm q6,λhd=>(B11.dlo _ hd).2.2.2.2.1 rfl⟩
    ·have hlt:=rG H' b hb
     rcases hS' b hb with hb | hb
     ·have:=R11.sep b hb
      exact⟨this.1,hlt,this.2.2⟩
     ·have:=B11.nw.next
      exact⟨by omega,hlt,by omega,by omega,by omega,by omega,λhd=>by have:=(B11.dlo b hd).2.1;omega⟩
    ·have:=mt11.next
     exact⟨by omega,λb hb hn=>(mm.get b (by omega) (λhs=>hs.elim (λh=>(hSo b h).elim (λh=>hn (.inr (.inr (.inr (.inr h))))) (λh=>by omega)) (λe=>hn (.inr (.inr (.inl e)))))).trans (mt11.get b hb hn)⟩
   have same:st (j+1)=st j->WR ((j:Int)+1) λx=>RE (ol.length - j) (J · x h11):=λe=>fin h11 S7 (Mt.refl _ _) (λb hb=>.inl hb) (by rw[e];exact R11.heap) (by rw[e];exact R11.bf_)
   have st_none:stO N p k cell t c ol pr j=none->st (j+1)=st j:=λe=>by
    rw[hst_,hst_,tL,e]
    simp
   have st_some:∀y,stO N p k cell t c ol pr j=some (bn,y)->st (j+1)=bV dx a (st j) (bn,y):=λy e=>by
    rw[hst_,hst_,tL,e]
    show bR dx a (stP N p k cell t c ol pr j ++ [_]) _=_
    rw[uZ]
   have tail:∀y:Int,0<=y->stO N p k cell t c ol pr j=(if y<INF then some (bn,y.toNat) else none)->TS (y<1152921504606846976) (LZ h11 q (0+7) λA5 n5 K5=>NK (bn:Int) λk3=>AQ A5 λb_5 o_5=>k3<n5/\LI h11 b_5 (o_5+k3) λx16=>LI h11 q (0+8) λx17=>TS (x16=x17) (WR ((j:Int)+1) λx18=>RE (ol.length - j) (J · x18 h11))
     (LP h11 q (0+5) λp6=>CB 92 [.pointer p6,.int .i64 (k3:Int),.int .i64 y] h11 λb4 h13=>BS b4 (LZ h13 q (0+6) λA6 n6 K6=>AQ A6 λb_6 o_6=>k3<n6/\ST h13 b_6 (o_6+k3) [.int .i64 (a:Int)] λh14=>WR ((j:Int)+1) λx19=>RE (ol.length - j) (J · x19 h14)) (WR ((j:Int)+1) λx20=>RE (ol.length - j) (J · x20 h13)))) (WR ((j:Int)+1) λx21=>RE (ol.length - j) (J · x21 h11)):=by
    intro y hy0 hy
    refine⟨λhlt2=>?_,λhge2=>same (st_none (by rw[hy,if_neg hge2]))⟩
    rw[if_pos hlt2]at hy
    have nx:=st_some _ hy
    obtain⟨dl,c1,c2,c3,c4⟩:=R11.dnb
    have hdl:dl[bn]? = some (dl[bn]'(by omega)):=List.getElem?_eq_getElem _
    refine⟨_,_,_,aa B11.blk rfl,bn,rfl,dn,0,rfl,hbl,_,iH c1 hdl,_,aa B11.blk rfl,λhdt=>same ?_,λhdf=>?_⟩
    ·have:=(c3 bn _ hdl).1 hdt
     rw[nx,bV,if_neg]
     intro h
     rw[h]at this
     cases this
    ·have hnn:dx bn=none:=by
      cases hd:dx bn with
      | none=>rfl
      | some z=>exact absurd ((c3 bn _ hdl).2 (by rw[hd];rfl)) hdf
     rw[bV,if_pos hnn]at nx
     refine⟨_,aa B11.blk rfl,Bn R11.heap hbl hy0 (by unfold INF at *;omega) λh15 S15 H15 m15 g15=>⟨_,rfl,λhpt=>?_,λhpf=>?_⟩⟩
     ·have B15:=B11.off m15 λb hb=>by have:=R11.sep b hb;exact⟨this.1,this.2.2.1,this.2.2.2.1,this.2.2.2.2.2.2⟩
      have z15:=m15.next
      have bf15:=m15.bk q9 (λhs=>(R11.sep _ hs).2.2.2.2.1 rfl) R11.bf_
      obtain⟨h16,s16,b16,z16,o16⟩:=cH bf15 (k:=bn) (by simp[rF];omega) (a:Int)
      unfold rF at b16
      rw[BM hbl]at b16
      have m16:Mt (λb=>S7 b\/b=bf) h11 h16:=⟨by omega,λb hb hn=>(o16 b (λe=>hn (.inr e))).trans (m15.get b hb (λhs=>hn (.inl hs)))⟩
      refine⟨_,_,_,aa B15.blk rfl,bf,0,rfl,hbl,h16,s16,fin h16 S15 m16 (λb hb=>(g15 b hb).elim .inl (λh=>.inr (by omega))) ?_ ?_⟩
      ·rw[nx]
       refine H15.off (S':=λb=>b=bf) ⟨by omega,λb _ hn=>o16 b hn⟩ λb hb e=>?_
       rcases g15 b hb with h | h
       ·exact(R11.sep b h).2.2.2.2.1 e
       ·omega
      ·rw[nx]
       simp only
       rw[if_pos hpt]
       exact b16
     ·refine fin h15 S15 (m15.mono λb hb _=>.inl hb) (λb hb=>(g15 b hb).elim .inl (λh=>.inr (by omega))) (by rw[nx];exact H15) ?_
      rw[nx]
      simp only
      rw[if_neg (by rw[hpf];exact Bool.noConfusion)]
      exact m15.bk q9 (λhs=>(R11.sep _ hs).2.2.2.2.1 rfl) R11.bf_
   refine⟨j,rfl,b2,o2,rfl,by omega,_,e9,b3,o3,rfl,by omega,_,e10,DM _ _ ⟨_,rfl,λhet=>?_,λhnt=>?_⟩⟩
   ·have het':bn=t:=by omega
    refine tail _ (by rw[e1];unfold INF at *;omega) ?_
    unfold stO
    rw[hbn,hx10]
    simp only
    rw[if_pos het']
   ·have hnt':bn≠t:=λe=>hnt (by rw[e])
    refine Ah B11 G hpo h1 hkl hbl λy hy=>⟨_,rfl,λhyt=>?_,λhyf=>same (st_none ?_)⟩
    ·have hwin:=hy.1 hyt
     have e2':=u9 (c:=cM (c:Int) x10) (x:=N.w bn) (by rw[e1];unfold INF aM at *;omega) (by unfold INF at *;omega)
     refine⟨_,aa B11.blk rfl,md (G.nw B11.nw) hbl ⟨_,rfl,DM _ _ ⟨_,rfl,tail _ (by rw[e2',e1];unfold INF at *;omega) ?_⟩⟩⟩
     unfold stO
     rw[hbn,hx10]
     simp only
     rw[if_neg hnt']
     by_cases hl:cM (cM (c:Int) x10) (N.w bn)<INF
     ·rw[if_pos ⟨hwin,hl⟩,if_pos hl]
     ·rw[if_neg (λh=>hl h.2),if_neg hl]
    ·unfold stO
     rw[hbn,hx10]
     simp only
     rw[if_neg hnt',if_neg]
     intro h
     have:=hy.2 h.1
     rw[hyf]at this
     cases this
  ·obtain rfl:j=ol.length:=by omega
   have hks:a=s\/done s≠none:=hst6.elim (λ⟨_,e⟩=>.inl (by
    rw[e]at hqk
    by_cases h:a=s
    ·exact h
    ·simp[h]at hqk)) .inr
   have hstep:∀b y,(b,y)∈stP N p k cell t c ol pr ol.length->y<aM/\b<N.na/\∃x,eO a b=some x/\y=c+x:=λb y hb=>by
    rw[heO];exact hR.step hok hpo h1 hkl hka' ht hcI hb
   have hD2:=hD.round (par:=par) hqk hcI hmin (stP N p k cell t c ol pr ol.length) (λb x hb he hx _=>hR.put hok hpo h1 hkl hka' ht hcI (by rw[<-heO];exact he) hx) (λb y hb _=>(hstep b y hb).2.2)
   have hP2:=hPr.round hqk hdk (stP N p k cell t c ol pr ol.length) (λb y hb _ _=>(hstep b y hb).2.2) hks
   rw[<-hdx,<-hst_]at hD2 hP2
   have hcnt:=ik (c:=c) hdk N.na hkN
   have hclt:=wh hdk hkN
   rw[<-hcnt,<-hdx]at hP2
   rw[<-hdx]at hcnt
   refine⟨N.na - eA dx N.na,by omega,dx,(st ol.length).1,(st ol.length).2,_,D',S7,B11,R11,hD2,hP2,λb y hb=>?_,λb y hb=>?_,?_,.inr ?_,rfl,mt11,hD',hSo⟩
   ·rw[hst_]at hb
    rcases dY _ _ hb with⟨h3,-⟩ | ⟨-,h4,-⟩
    ·simp only[del]at h3
     by_cases e:b=a
     ·simp[e]at h3
     ·rw[if_neg e]at h3;exact hwI b y h3
    ·obtain⟨g1,g2,x,g3,-⟩:=hstep b y h4
     refine⟨g1,?_⟩
     by_cases e:b=t
     ·exact .inl e
     ·right
      rw[heO]at g3
      unfold opE at g3
      rw[if_neg e]at g3
      exact Ag hok hpo hkl h1 g3
   ·rw[hdx]at hb
    simp only[upd]at hb
    by_cases e:b=a
    ·omega
    ·rw[if_neg e]at hb;exact hdn b y hb
   ·rw[hdx]
    simp only[upd]
    rw[if_neg (Ne.symm hat)]
    exact hdt
   ·rw[hdx]
    simp only[upd]
    rcases hks with e | e
    ·rw[if_pos e.symm];intro h;cases h
    ·split
     ·intro h;cases h
     ·exact e
end
end Eva
end
section
open Go Go.RowKit
namespace Eva
section
variable {h h' h0:AH}{Q:Value->AH->Prop}{Fa F Fo:Nat->Prop}{N:ab}{p:List (List Int)}{g o C:Nat}
theorem vb (G:GrA h Fa F g N) (O:OvA h Fo o N p) (hK:∀q mp bf dn hp cA cK D S h',PA h N p g o C q mp bf dn hp cA cK 0 0 D h'->RP h q mp bf dn hp N.na D S 0 (λ_=>some 0) (λ_=>none) (λ_=>0) h'->Q (.pointer (some ⟨q,0,none⟩)) h') :
  WC Tryz.prog 43 [.pointer (some ⟨g,0,none⟩),.pointer (some ⟨o,0,none⟩),.slice (some ⟨C,0,none⟩) (N.size p) (cx (N.size p))] h Q:=by
 have hna:=G.few.2
 refine kQ λh1 e1=>?_
 obtain⟨k1,g1,z1⟩:=aj e1
 refine zP (O.nw k1) λA2 K2 h2 s2 k2=>⟨_,_,_,rfl,pW (G.nw (k1.trans k2)) ⟨_,rfl,DQ N.na (by omega) λh4 S4 hp_ H4 k4 hS4=>⟨_,rfl,pW (G.nw ((k1.trans k2).trans k4)) ⟨_,rfl,N.na,rfl,by omega,λh6 e6=>?_⟩⟩⟩⟩
 obtain⟨k6,g6,z6⟩:=aj e6
 have k06:=((k1.trans k2).trans k4).trans k6
 refine pW (G.nw k06) ⟨_,rfl,N.na,rfl,by omega,λh8 e8 h9 e9=>?_⟩
 obtain⟨k8,g8,z8⟩:=aj e8
 obtain⟨k9,g9,z9⟩:=aj e9
 rw[a9]at g6 g8
 have z2:=k2.next
 have z4:=k4.next
 have k89:=k8.trans k9
 have k69:=k6.trans k89
 have k49:=k4.trans k69
 have S4lt:=rG H4
 refine hK h8.next h.next h4.next h6.next hp_ A2 K2 (λb=>h1.next<=b/\b<h2.next) S4 h9 ⟨(k06.trans k89),g9,(s2.mono λb hb hlt=>⟨hb,hlt⟩).nw k49,⟨λ_=>none,(dN.new g1).keep ((k2.trans k49).get _ (by omega)),λl c v hv=>by cases hv⟩,λb hb=>by omega,by omega⟩ ⟨⟨List.replicate N.na 0,?_,by simp,λa x hx=>?_,λx hx=>?_⟩,?_,H4.nw k69,λb hb=>?_⟩
 ·have:=k9.bk (by omega) g8
  rw[List.map_replicate]
  exact this
 ·have:=List.mem_of_getElem? hx
  simp at this
  exact⟨λ_=>rfl,λ_=>this.2⟩
 ·have:=List.eq_of_mem_replicate hx
  omega
 ·have:=k89.bk (by omega) g6
  have e:rF (λ_=>0) N.na=List.replicate N.na 0:=by
   unfold rF
   show(List.range N.na).map (λ_=>(0:Int))=_
   rw[List.map_const',List.length_range]
  rw[e,List.map_replicate]
  exact this
 ·have h5:=hS4 b hb
  have h6:=S4lt b hb
  omega
end
end Eva
end
section
open Go Go.RowKit
namespace Eva
section
variable {h h' h0:AH}{Q:Value->AH->Prop}{Fa F Fo:Nat->Prop}{N:ab}{p:List (List Int)}{g o C q mp bf dn hp n:Nat}{cA:Option Addr}{cK:Nat}{rd lp:Int}{D D' S S':Nat->Prop}{a k cell s t:Nat}{costs:List Int}{done w:Nat->Option Nat}{par:Nat->Nat}
theorem PA.leaps (B:PA h0 N p g o C q mp bf dn hp cA cK rd lp D h):∃h',stC h q (0+9) [.int .i64 (lp+1)]=some h'/\PA h0 N p g o C q mp bf dn hp cA cK rd (lp+1) D h'/\Mt (λb=>b=q) h h'/\h'.next=h.next:=by
 obtain⟨P1,P2,P3,P4,P5,P6,P7,P8,P9,P10,P11,P12,P13,P14⟩:=B.pos
 obtain⟨h4,s4,b4,z4,o4⟩:=aA (v:=.int .i64 (lp+1)) B.blk (o:=9) (by simp) rfl
 have m4:Mt (λb=>b=q) h h4:=⟨by omega,λb _ hb=>o4 b hb⟩
 refine⟨h4,by rw[Nat.zero_add];exact s4,?_,m4,z4⟩
 obtain⟨f,f1,f2⟩:=B.map_
 have nD:∀b,D b->¬b=q:=λb hd=>(B.dlo b hd).2.2.1
 refine⟨m4.is_nw B.nw λb hb=>by omega,b4,B.cells.off m4 nD,⟨f,f1.keep (o4 _ (Ne.symm P4)),λl c v hv=>?_⟩,λb hb=>by have:=B.dlo b hb;omega,by omega⟩
 obtain⟨A,K,B',L,e,s1,s2⟩:=f2 l c v hv
 exact⟨A,K,B',L,e,s1.off m4 nD,s2.off m4 nD⟩
theorem RP.off (R:RP h0 q mp bf dn hp n D S rd done w par h) (hpos:dn<h.next/\bf<h.next){M:Nat->Prop}(m:Mt M h h') (hM:∀b,M b->b≠dn/\b≠bf/\¬S b):RP h0 q mp bf dn hp n D S rd done w par h':=by
 obtain⟨dl,d1,d2⟩:=R.dnb
 have z:=m.next
 refine⟨⟨dl,m.bk hpos.1 (λhs=>(hM _ hs).1 rfl) d1,d2⟩,m.bk hpos.2 (λhs=>(hM _ hs).2.1 rfl) R.bf_,R.heap.off m λb hb hs=>(hM b hs).2.2 hb,λb hb=>?_⟩
 obtain⟨s1,s2,s3⟩:=R.sep b hb
 exact⟨s1,by omega,s3⟩
set_option maxRecDepth 100000 in
theorem Co (G:GrA h0 Fa F g N) (O:OvA h0 Fo o N p) (bc:Bk h0 C (costs.map (Value.int .i64)) 2) (hC:C<h0.next) (hco:ch N p costs) (hsz:N.size p<1000000) (hna3:N.na<=300) :
  ∀(k:Nat){h:AH}{Q:Value->AH->Prop}{rd lp:Int}{D S:Nat->Prop}{done w:Nat->Option Nat}{par:Nat->Nat}{s t:Nat}(B:PA h0 N p g o C q mp bf dn hp cA cK rd lp D h) (R:RP h0 q mp bf dn hp N.na D S rd done w par h)
   (h1:1<=k) (hkl:k<=p.length) (hs:s<N.na) (hin:N.inA p k (cel p k (N.to s)) s) (ht:t∈N.outs p k (cel p k (N.to s))) (hent:N.ent p costs k s t<INF) (hrd:0<=rd/\rd+(dP k:Nat)<=9000000000000000000) (hlp:0<=lp/\lp+(dP k:Nat)<=9000000000000000000)
   (hK:∀(A:Option Addr) (K:Nat) (l:List Nat) (D' S':Nat->Prop) (done' w':Nat->Option Nat) (par':Nat->Nat) (rd' lp':Int) (h':AH),Sa cI (λb=>h.next<=b/\¬D' b/\¬S' b) h' A l.length K (ints l)->bp N.e N.tr (N.win p k (cel p k (N.to s))) t s (N.ent p costs k s t).toNat l->l.length<=fJ (N.xlev p) N.na k->
    PA h0 N p g o C q mp bf dn hp cA cK rd' lp' D' h'->RP h0 q mp bf dn hp N.na D' S' rd' done' w' par' h'->(0<=rd'/\rd'<=rd+(dP k:Nat))->(0<=lp'/\lp'<=lp+(dP k:Nat))->Mt (λb=>b=q\/b=mp\/b=bf\/b=dn\/S b) h h'->(∀b,D' b->D b\/h.next<=b)->(∀b,S' b->S b\/h.next<=b)->Q (.tuple #[.slice A l.length K,.bool true]) h'),
  WC Tryz.prog 44 [.pointer (some ⟨q,0,none⟩),.int .i64 k,.int .i64 s,.int .i64 t] h Q
 | 0,h,Q,rd,lp,D,S,done,w,par,s,t,B,R,h1,hkl,hs,hin,ht,hent,hrd,hlp,hK=>absurd h1 (by omega)
 | k+1,h,Q,rd,lp,D,S,done,w,par,s,t,B,R,h1,hkl,hs,hin,ht,hent,hrd,hlp,hK=>by
  have hok:=G.ok
  have hpo:=O.hp
  have hp6:=hpo.few
  obtain⟨P1,P2,P3,P4,P5,P6,P7,P8,P9,P10,P11,P12,P13,P14⟩:=B.pos
  have hT:((dP (k+1):Nat):Int)=1+302*(dP k:Nat):=by simp[dP]
  have hT0:(0:Int)<=(dP k:Nat):=Int.natCast_nonneg _
  obtain⟨h2,s2,B2,m2,z2⟩:=B.leaps
  have R2:=R.off ⟨P11,P9⟩ m2 λb (hb:b=q)=>⟨by omega,by omega,λhs=>(R.sep b hs).2.2.1 hb⟩
  obtain⟨cell,hcell⟩:∃cell,cel p (k+1) (N.to s)=cell:=⟨_,rfl⟩
  rw[hcell]at hin ht hK
  refine jn ⟨q,0,rfl,lp,aa B.blk rfl,lp+1,ah (by omega) (by omega),h2,s2,?_⟩
  refine Do B2 R2 G O bc hC hco hsz h1 hkl hs hcell hin ht hent (by omega) λA K ls D2 S2 done2 w2 par2 h3 s3 r3 nd3 l3 B3 R3 m3 hD2 hS2=>⟨A,ls.length,K,true,rfl,λ_=>⟨λhk1=>?_,λhk1=>?_⟩,λh=>Bool.noConfusion h⟩
  ·obtain rfl:k=0:=by omega
   have m03:Mt (λb=>b=q\/b=mp\/b=bf\/b=dn\/S b) h h3:=(m2.mono λb hb _=>.inl hb).trans m3 λb hb _=>hb
   refine hK A K ls D2 S2 done2 w2 par2 (rd+1) (lp+1) h3 (s3.mono λb hb _=>⟨by omega,hb.2⟩) (zq r3) ?_ B3 R3 ⟨by omega,by omega⟩ ⟨by omega,by omega⟩ m03 (λb hb=>(hD2 b hb).imp id λh=>by omega) (λb hb=>(hS2 b hb).imp id λh=>by omega)
   have:=pT hok hpo h1 hkl r3 nd3
   simpa[fJ]using this
  ·have hk2:2<=k+1:=by omega
   have hsl:=pT hok hpo h1 hkl r3 nd3
   have z3:=m3.next
   have hpr:fJ (N.xlev p) N.na (k+1)<=17596287801:=nL hna3 (by omega)
   have hpe:fJ (N.xlev p) N.na (k+1)=fJ (N.xlev p) N.na k*(eK (N.xlev p) (k+1) N.na+1):=rfl
   obtain⟨pr,hpr_⟩:∃pr,fJ (N.xlev p) N.na k=pr:=⟨_,rfl⟩
   rw[hpr_]at hpe
   obtain⟨T,hT_⟩:∃T,dP k=T:=⟨_,rfl⟩
   rw[hT_]at hT hT0
   have wk:IntKind.i64.wrap (((k+1:Nat):Int) - 1)=(k:Int):=by rw[ah (by omega) (by omega)];omega
   obtain⟨E,hE⟩:∃E:Nat->Prop,∀b,E b↔h2.next<=b/\b<h3.next/\¬D2 b/\¬S2 b:=⟨_,λ_=>Iff.rfl⟩
   have s3':Sa cI E h3 A ls.length K (ints ls):=s3.mono λb hb hlt=>(hE b).2 ⟨hb.1,hlt,hb.2⟩
   have m03:Mt (λb=>b=q\/b=mp\/b=bf\/b=dn\/S b) h h3:=(m2.mono λb hb _=>.inl hb).trans m3 λb hb _=>hb
   obtain⟨J,hJ⟩:∃J:Nat->Int->Option Addr->Nat->Nat->Int->AH->Prop,∀m x A2 n2 K2 y hh,J m x A2 n2 K2 y hh↔∃(j cur:Nat) (l1:List Nat) (D4 S4:Nat->Prop) (done4 w4:Nat->Option Nat) (par4:Nat->Nat) (rd4 lp4:Int),x=cur/\y=j/\j<=ls.length/\m=ls.length - j/\n2=l1.length/\rl N p (k+1) cell (N.ent p costs) s t (N.ent p costs (k+1) s t).toNat ls j cur l1/\
     al cI hh (af A2) 3 A2 n2 K2 (ints l1)/\(∀z,af A2 z->h3.next<=z/\¬D4 z/\¬S4 z)/\l1.length<=j*pr/\PA h0 N p g o C q mp bf dn hp cA cK rd4 lp4 D4 hh/\RP h0 q mp bf dn hp N.na D4 S4 rd4 done4 w4 par4 hh/\(0<=rd4/\rd4<=rd+1+(j*T:Nat))/\(0<=lp4/\lp4<=lp+1+(j*T:Nat))/\
     Mt (λb=>b=q\/b=mp\/b=bf\/b=dn\/S b) h hh/\(∀b,D4 b->D2 b\/h3.next<=b)/\(∀b,S4 b->S2 b\/h3.next<=b)/\Sa cI E hh A ls.length K (ints ls)/\h3.next<=hh.next:=⟨_,λ_ _ _ _ _ _ _=>Iff.rfl⟩
   refine⟨J,ls.length,(hJ _ _ _ _ _ _ _).2 ⟨0,s,[],D2,S2,done2,w2,par2,rd+1,lp+1,rfl,rfl,Nat.zero_le _,rfl,rfl,rl.start r3,al.nil _ _ _ _,λz hz=>hz.elim,Nat.zero_le _,B3,R3,⟨by omega,by omega⟩,⟨by omega,by omega⟩,m03,λb hb=>.inl hb,λb hb=>.inl hb,s3',Nat.le_refl _⟩,λm x A2 n2 K2 y h4 hj=>?_⟩
   obtain⟨j,cur,l1,D4,S4,done4,w4,par4,rd4,lp4,rfl,rfl,hjl,rfl,rfl,hO,o4,lo4,hl1,B4,R4,hrd4,hlp4,m4,hD4,hS4,s4,z4⟩:=(hJ _ _ _ _ _ _ _).1 hj
   obtain⟨q1,q2,q3,q4,q5,q6,q7,q8,q9,q10,q11,q12,q13,q14⟩:=B4.pos
   have hEq:∀b,E b->¬(b=q\/b=mp\/b=bf\/b=dn\/S4 b):=λb hb hh=>by
    obtain⟨e1,e2,e3,e4⟩:=(hE b).1 hb
    rcases hh with h | h | h | h | h
    ·omega
    ·omega
    ·omega
    ·omega
    ·rcases hS4 b h with h | h
     ·exact e4 h
     ·omega
   have hjs:∀i,i<=ls.length->i*pr<=fJ (N.xlev p) N.na (k+1):=λi hi=>by
    rw[hpe,Nat.mul_comm pr]
    exact Nat.mul_le_mul_right _ (by omega)
   have hjT:∀i,i<=ls.length->i*T<=301*T:=λi hi=>Nat.mul_le_mul_right _ (by omega)
   refine⟨λhlt=>?_,λhge=>?_⟩
   ·obtain⟨b2,o2,x8,hA,-,-,hx8,e8⟩:=s4.int (k:=j) (by omega)
    obtain⟨bn,hbn,rfl⟩:∃bn:Nat,ls[j]? = some bn/\x8=(bn:Int):=by
     unfold ints at hx8
     rw[List.getElem?_map]at hx8
     cases hv:ls[j]? with
     | none=>rw[hv]at hx8;cases hx8
     | some bn=>rw[hv]at hx8;exact⟨bn,rfl,(Option.some.inj hx8).symm⟩
    obtain⟨g1,g2,g3,g4,g5⟩:=hO.step hok hpo hk2 hkl hbn
    simp only[Nat.add_sub_cancel]at g2 g3 g4 g5
    have hj1:=hjs (j+1) (by omega)
    have hj2:=hjT (j+1) (by omega)
    rw[Nat.succ_mul]at hj1 hj2
    refine⟨j,rfl,b2,o2,hA,by omega,_,e8,_,wk,?_⟩
    refine Co G O bc hC hco hsz hna3 k B4 R4 (by omega) (by omega) g1 g2 g3 g4 (by rw[hT_];omega) (by rw[hT_];omega) λA3 K3 l2 D5 S5 done5 w5 par5 rd5 lp5 h5 s5 r5 l5 B5 R5 hrd5 hlp5 m5 hD5 hS5=>⟨A3,l2.length,K3,true,rfl,λ_=>?_,λh=>Bool.noConfusion h⟩
    rw[hT_]at hrd5 hlp5
    rw[hpr_]at l5
    have z5:=m5.next
    obtain⟨r1,r2,r3',r4,r5',r6,r7,r8,r9,r10,r11,r12,r13,r14⟩:=B5.pos
    have lt4:∀z,af A2 z->z<h4.next:=λz hz=>o4.own hz
    have o5:=o4.off m5 λz hz hlt hh=>by
     obtain⟨e1,e2,e3⟩:=lo4 z hz
     rcases hh with h | h | h | h | h
     ·omega
     ·omega
     ·omega
     ·omega
     ·exact e3 h
    have lo5:∀z,af A2 z->¬D5 z/\¬S5 z:=λz hz=>⟨λhd=>(hD5 z hd).elim (lo4 z hz).2.1 (λh=>by have:=lt4 z hz;omega),λhd=>(hS5 z hd).elim (lo4 z hz).2.2 (λh=>by have:=lt4 z hz;omega)⟩
    obtain⟨A6,K6,h6,y1,y2,y3,y4⟩:=aX (r:=cI) (c9 _) dK o5 s5.z (by omega) (by omega)
    have z6:=y3.next
    have hM:∀b,af A2 b->h0.next<=b/\b≠q/\b≠mp/\b≠bf/\b≠dn/\¬D5 b/\¬S5 b:=λb hb=>by
     obtain⟨e1,e2,e3⟩:=lo4 b hb
     have:=B.nw.next
     exact⟨by omega,by omega,by omega,by omega,by omega,(lo5 b hb).1,(lo5 b hb).2⟩
    have B6:=B5.off y3 λb hb=>by have:=hM b hb;exact⟨this.1,this.2.1,this.2.2.1,this.2.2.2.2.2.1⟩
    have R6:=R5.off ⟨r11,r9⟩ y3 λb hb=>by have:=hM b hb;exact⟨this.2.2.2.2.1,this.2.2.2.1,this.2.2.2.2.2.2⟩
    have e12:ints l1 ++ ints l2=ints (l1 ++ l2):=by simp[ints]
    rw[e12]at y2
    have hl12:(l1 ++ l2).length=l1.length+l2.length:=List.length_append
    refine⟨A6,_,K6,h6,y1,((j+1:Nat):Int),by rw[Int.natCast_succ];exact ah (by omega) (by omega),ls.length - (j+1),by omega,(hJ _ _ _ _ _ _ _).2 ⟨j+1,bn,l1 ++ l2,D5,S5,done5,w5,par5,rd5,lp5,rfl,rfl,by omega,rfl,hl12.symm,g5 l2 r5,y2,λz hz=>?_,by rw[hl12,Nat.succ_mul];omega,B6,R6,⟨hrd5.1,by rw[Nat.succ_mul];omega⟩,⟨hlp5.1,by rw[Nat.succ_mul];omega⟩,?_,λb hb=>?_,λb hb=>?_,?_,by omega⟩⟩
    ·rcases y4 z hz with h | h
     ·exact⟨(lo4 z h).1,lo5 z h⟩
     ·exact⟨by omega,λhd=>by have:=(B5.dlo z hd).2.1;omega,λhs=>by have:=(R5.sep z hs).2.1;omega⟩
    ·have m45:Mt (λb=>b=q\/b=mp\/b=bf\/b=dn\/S b) h h5:=m4.trans m5 λb hb hlt=>by
      rcases hb with h | h | h | h | h
      ·exact .inl h
      ·exact .inr (.inl h)
      ·exact .inr (.inr (.inl h))
      ·exact .inr (.inr (.inr (.inl h)))
      ·rcases hS4 b h with h | h
       ·rcases hS2 b h with h | h
        ·exact .inr (.inr (.inr (.inr h)))
        ·omega
       ·omega
     exact m45.trans y3 λb hb hlt=>by have:=(lo4 b hb).1;omega
    ·rcases hD5 b hb with h | h
     ·exact hD4 b h
     ·right;omega
    ·rcases hS5 b hb with h | h
     ·exact hS4 b h
     ·right;omega
    ·refine(s4.off m5 hEq).off y3 λb hb ho=>?_
     have:=(hE b).1 hb
     have:=(lo4 b ho).1
     omega
   ·obtain rfl:j=ls.length:=by omega
    have hj1:=hjs ls.length (Nat.le_refl _)
    have hj2:=hjT ls.length (Nat.le_refl _)
    refine hK A2 K2 l1 D4 S4 done4 w4 par4 rd4 lp4 h4 (o4.sa.mono λz hz _=>⟨by have:=(lo4 z hz).1;omega,(lo4 z hz).2⟩) (hO.all (Nat.le_refl _)) (by omega) B4 R4 ⟨hrd4.1,by omega⟩ ⟨hlp4.1,by omega⟩ m4 (λb hb=>?_) (λb hb=>?_)
    ·rcases hD4 b hb with h | h
     ·exact(hD2 b h).imp id λh=>by omega
     ·right;omega
    ·rcases hS4 b hb with h | h
     ·exact(hS2 b h).imp id λh=>by omega
     ·right;omega
end
end Eva
end
section
open Go Go.RowKit
namespace Eva
section
variable {h h':AH}{Q:Value->AH->Prop}{F G:Nat->Prop}{A B:Option Addr}{n m K L g c:Nat}{xs zs:List Int}
theorem BN {b:Nat}(o:bK h (some ⟨b,0,none⟩) n K xs):Sa cI (λz=>z=b) h (some ⟨b,0,none⟩) n K xs:=by
 obtain⟨hl,o⟩:=o
 rcases o with⟨h0,_,_⟩ | ⟨g,c,rest,hA,h1,h2,h3,h4,h5⟩
 ·cases h0
 ·injection hA with hA
  injection hA with hA
  subst hA
  refine Sa.of_bk h5 hl rfl h1 λk x hx=>?_
  show(((xs.map (Value.int .i64) ++ rest).drop (k*1)).take 1)=_
  rw[Nat.mul_one]
  have hk:=(List.getElem?_eq_some_iff.1 hx).1
  exact cR (by rw[List.getElem?_append_left (by simpa using hk)];simp[hx])
theorem bK.apps (o:bK h (some ⟨g,0,none⟩) n (cl c) xs) (hz:Sz cI F h B m L zs) (hr:n+m<=c) (hc:c<8000000000000) :
  ∃h1,ai Tryz.prog h (some (.slice 3)) (some (.slice 3)) (.slice (some ⟨g,0,none⟩) n (cl c)) (.slice B m L)=some (.slice (some ⟨g,0,none⟩) (n+m) (cl c),h1)/\bK h1 (some ⟨g,0,none⟩) (n+m) (cl c) (xs ++ zs)/\h1.next=h.next/\∀b,b≠g->h1.get b=h.get b:=by
 have hzl:=hz.len
 have hble:Nat.ble (n+m) (cl c / 2)=true:=Nat.ble_eq_true_of_le (by unfold cl;omega)
 rcases Nat.eq_zero_or_pos m with h0 | h0
 ·subst h0
  have hzs:zs = []:=List.eq_nil_of_length_eq_zero hzl
  subst hzs
  have hap:=kc (P:=Tryz.prog) (h:=h) (e:=3) (size:=1) (bytes:=8) (A:=some ⟨g,0,none⟩) (K:=cl c) (L:=L) (B:=B) (n:=n) (m:=0) (cells:=[]) dK rfl (by simp) (λh=>absurd h (by omega)) (by omega) (by omega)
  rw[hble]at hap
  exact⟨h,hap.trans rfl,by rw[List.append_nil];exact o,rfl,λ_ _=>rfl⟩
 ·obtain⟨b,ob,cells,rfl,hFb,hblt,hcl,hcc,hcf,hcr⟩:=hz.cells h0
  have hce:cells=zs.map (Value.int .i64):=by
   apply List.ext_getElem?
   intro i
   have hcl':cells.length=m:=by rw[hcl];exact Nat.mul_one m
   by_cases hi:i<m
   ·have hx:zs[i]? = some (zs[i]'(by omega)):=List.getElem?_eq_getElem _
    have h8:(cells.drop (i*1)).take 1 = [.int .i64 (zs[i]'(by omega))]:=hcr i _ hx
    rw[List.getElem?_map,hx]
    have h9:=congrArg (λl=>l[0]?) h8
    simpa using h9
   ·rw[List.getElem?_eq_none (by omega),List.getElem?_eq_none (by simp;omega)]
  have hap:=kc (P:=Tryz.prog) (h:=h) (e:=3) (size:=1) (bytes:=8) (A:=some ⟨g,0,none⟩) (K:=cl c) (L:=L) (B:=some ⟨b,ob,none⟩) (n:=n) (m:=m) (cells:=cells) dK hcl hcf (λ_=>⟨b,ob,rfl,hcc⟩) (by omega) (by omega)
  rw[hble]at hap
  simp only[cond_true]at hap
  obtain⟨hl,o⟩:=o
  rcases o with⟨q0,_,_⟩ | ⟨g',c',rest,hA,h1,h2,h3,h4,h5⟩
  ·cases q0
  ·injection hA with hA
   injection hA with hA
   subst hA
   obtain rfl:c' = c:=by unfold cl at h2;omega
   have hadd:(⟨g,0,none⟩:Addr).add (n*1)=⟨g,n,none⟩:=by
    rw[Nat.mul_one]
    unfold Addr.add
    split
    ·rename_i h0;subst h0;rfl
    ·simp
   have hcl':cells.length=m:=by rw[hcl];exact Nat.mul_one m
   have hst:stC h g n cells=some (h.put g (.cells ((xs.map (Value.int .i64) ++ rest).take n ++ cells ++ (xs.map (Value.int .i64) ++ rest).drop (n+cells.length)) 3 false)):=stN h5 (by rw[List.length_append,List.length_map];omega) hcf
   have hst':cL h ((⟨g,0,none⟩:Addr).add (n*1)) cells=some (h.put g (.cells ((xs.map (Value.int .i64) ++ rest).take n ++ cells ++ (xs.map (Value.int .i64) ++ rest).drop (n+cells.length)) 3 false)):=by rw[hadd];exact hst
   have hb0:Nat.beq m 0=false:=by
    cases hb:Nat.beq m 0 with
    | false=>rfl
    | true=>have:=aq hb;omega
   obtain⟨hh,hhe⟩:∃hh,h.put g (.cells ((xs.map (Value.int .i64) ++ rest).take n ++ cells ++ (xs.map (Value.int .i64) ++ rest).drop (n+cells.length)) 3 false)=hh:=⟨_,rfl⟩
   rw[hhe]at hst'
   refine⟨hh,?_,⟨by rw[List.length_append,hl,hzl],.inr ⟨g,c',rest.drop m,rfl,by rw[<-hhe];exact h1,rfl,h3,by rw[List.length_drop];omega,?_⟩⟩,by rw[<-hhe];rfl,λb hb=>by rw[<-hhe,get_put,if_neg hb]⟩
   ·rw[hap]
    unfold mw
    simp only[hb0,cond_false,hst']
   ·have e:(xs.map (Value.int .i64) ++ rest).take n ++ cells ++ (xs.map (Value.int .i64) ++ rest).drop (n+cells.length)=(xs ++ zs).map (Value.int .i64) ++ rest.drop m:=by
     have e1:(xs.map (Value.int .i64)).length=n:=by rw[List.length_map];exact hl
     rw[List.take_append_of_le_length (by omega),List.take_of_length_le (by omega),List.drop_append,List.drop_eq_nil_of_le (by omega),List.nil_append,hcl',e1,Nat.add_sub_cancel_left,hce,List.map_append]
    rw[Bk,<-hhe,get_put,if_pos rfl,e]
set_option maxRecDepth 100000 in
theorem Ai (hn:0<n) (hb:n<8000000000000):ai Tryz.prog h (some (.slice 3)) (some (.int .i64)) (.slice none 0 0) (.int .i64 (n:Int))=some (.slice (some ⟨h.next,0,none⟩) n (cl n),h.new (.cells (List.replicate n (.int .i64 0)) 3 false)):=by
 obtain⟨i,hi,h1,h2,h3,h4,h6,h7,h8⟩:=bi dK
 obtain⟨i',hi',hz⟩:=wm
 obtain rfl:i' = i:=Option.some.inj (hi'.symm.trans hi)
 have hnat:bE (.int .i64 (n:Int))=some n:=rfl
 have hz1:eX (.int .i64 0) i'.size=true:=by rw[h1];rfl
 have hb1:Nat.blt n 70000000000000=true:=Nat.ble_eq_true_of_le (by omega)
 have hsrc:lW i' (bE (.int .i64 (n:Int)))=some (n,List.replicate n (.int .i64 0)):=by
  rw[hnat]
  unfold lW
  rw[hz]
  simp only[hz1,hb1,Bool.and_self,cond_true]
  rw[<-a9];rfl
 have hble:Nat.ble (0+n) (0 / 2)=false:=by
  cases hb:Nat.ble (0+n) (0 / 2) with
  | false=>rfl
  | true=>exact absurd (Nat.le_of_ble_eq_true hb) (by omega)
 have hk:=vV (h:=h) (e:=3) (A:=none) (K:=0) (n:=0) (m:=n) (cells:=List.replicate n (.int .i64 0)) h1 h2 h6 h7 h8 (by simp) (λu hu=>by rw[List.eq_of_mem_replicate hu];rfl) (by omega) (by omega)
 rw[hble]at hk
 unfold ai
 simp only[hi,mz,cond_true]
 unfold lV
 rw[hsrc]
 simp only
 rw[hk]
 simp only[cond_false]
 unfold eY
 rfl
theorem Dp (hn:0<n) (hb:n<8000000000000) (hK:∀h',bK h' (some ⟨h.next,0,none⟩) 0 (cl n) []->Nw h h'->h'.next=h.next+1->Q (.slice (some ⟨h.next,0,none⟩) 0 (cl n)) h'):WC Tryz.prog 90 [.slice none 0 0,.int .i64 n] h Q:=by
 obtain⟨k1,g1,z1⟩:=aj (h:=h) (ao:=.cells (List.replicate n (.int .i64 0)) 3 false) rfl
 have o:bK (h.new (.cells (List.replicate n (.int .i64 0)) 3 false)) (some ⟨h.next,0,none⟩) n (cl n) (List.replicate n 0):=⟨by simp,.inr ⟨h.next,n,[],rfl,by omega,rfl,hn,by simp,by rw[List.append_nil,List.map_replicate];exact g1⟩⟩
 have oc:=o.cut0
 refine eJ ⟨λh=>absurd h (by omega),λ_=>⟨by rfl,0,rfl,n,by rw[Int.sub_zero];exact ah (by omega) (by omega),λ_=>⟨by rfl,none,0,0,by kernel_rfl,_,_,_,_,Ai hn hb,_,_,_,oc.2,hK _ oc.1 k1 z1⟩,λh=>absurd (by omega) h⟩⟩
theorem Aj {X Y:Option Addr}{K1 K2 b Kb:Nat}{t:TypeId}(hb:Bk h b [.slice X n K1,.slice Y m K2] t) (hlt:b<h.next) (hx:Sa cI F h X n K1 xs) (hy:Sa cI G h Y m K2 zs) (hn:0<n) (hnm:n+m<8000000000000)
  (hK:∀A' K' h',Sa cI (λz=>h.next<=z) h' A' (n+m) K' (xs ++ zs)->Nw h h'->Q (.slice A' (n+m) K') h'):WC Tryz.prog 45 [.slice (some ⟨b,0,none⟩) 2 Kb] h Q:=by
 refine fB ⟨λw x y h1=>h1=h/\∃i:Nat,y=i/\i<=2/\w=2 - i/\x=((if i=0 then 0 else if i=1 then n else n+m:Nat):Int),2,⟨rfl,0,rfl,by omega,rfl,rfl⟩,?_⟩
 rintro w x y h1 ⟨rfl,i,rfl,hi,rfl,rfl⟩
 refine⟨λhlt2=>?_,λhge=>?_⟩
 ·have hi2:i=0\/i=1:=by omega
  rcases hi2 with rfl | rfl
  ·refine⟨0,rfl,b,0,rfl,by omega,X,n,K1,aa hb rfl,(n:Nat),?_,λh=>absurd h (by omega),λ_=>⟨1,rfl,1,by omega,rfl,1,rfl,by omega,rfl,rfl⟩⟩
   show IntKind.i64.wrap (((0:Nat):Int)+(n:Int))=_
   rw[ah (by omega) (by omega)];omega
  ·refine⟨1,rfl,b,0,rfl,by omega,Y,m,K2,aa hb rfl,((n+m:Nat):Int),?_,λh=>absurd h (by omega),λ_=>⟨2,rfl,0,by omega,rfl,2,rfl,by omega,rfl,rfl⟩⟩
   show IntKind.i64.wrap (((n:Nat):Int)+(m:Int))=_
   rw[ah (by omega) (by omega)];omega
 ·obtain rfl:i=2:=by omega
  refine Dp (n:=n+m) (by omega) hnm λh2 o2 k2 z2=>⟨_,_,_,rfl,?_⟩
  have hb2:=k2.bk hlt hb
  refine⟨λw A n4 K4 y h3=>A=some ⟨h1.next,0,none⟩/\K4=cl (n+m)/\∃i:Nat,y=i/\i<=2/\w=2 - i/\n4=(if i=0 then 0 else if i=1 then n else n+m)/\bK h3 (some ⟨h1.next,0,none⟩) n4 (cl (n+m)) (if i=0 then [] else if i=1 then xs else xs ++ zs)/\Mt (λz=>z=h1.next) h2 h3,2,⟨rfl,rfl,0,rfl,by omega,rfl,rfl,o2,Mt.refl _ _⟩,?_⟩
  rintro w A n4 K4 y h3 ⟨rfl,rfl,i,rfl,hi,rfl,rfl,o3,m3⟩
  have hb3:Bk h3 b [.slice X n K1,.slice Y m K2] t:=m3.bk (by omega) (by omega) hb2
  refine⟨λhlt2=>?_,λhge=>?_⟩
  ·have hi2:i=0\/i=1:=by omega
   rcases hi2 with rfl | rfl
   ·have hx3:Sa cI F h3 X n K1 xs:=by
     have e:Sa cI (λz=>F z/\z<h1.next) h1 X n K1 xs:=hx.mono λz hz hl=>⟨hz,hl⟩
     exact((e.nw k2).off m3 λz hz e=>by omega).mono λz hz _=>hz.1
    obtain⟨h4,y1,y2,y3,y4⟩:=bK.apps o3 hx3.z (by simp) hnm
    refine⟨0,rfl,b,0,rfl,by omega,X,n,K1,aa hb3 rfl,_,_,_,h4,y1,1,rfl,1,by omega,rfl,rfl,1,rfl,by omega,rfl,by simp,by simpa using y2,m3.then ⟨by omega,λz _ hn=>y4 z hn⟩⟩
   ·have hy3:Sa cI G h3 Y m K2 zs:=by
     have e:Sa cI (λz=>G z/\z<h1.next) h1 Y m K2 zs:=hy.mono λz hz hl=>⟨hz,hl⟩
     exact((e.nw k2).off m3 λz hz e=>by omega).mono λz hz _=>hz.1
    obtain⟨h4,y1,y2,y3,y4⟩:=bK.apps o3 hy3.z (by simp) hnm
    refine⟨1,rfl,b,0,rfl,by omega,Y,m,K2,aa hb3 rfl,_,_,_,h4,y1,2,rfl,0,by omega,rfl,rfl,2,rfl,by omega,rfl,by simp,by simpa using y2,m3.then ⟨by omega,λz _ hn=>y4 z hn⟩⟩
  ·obtain rfl:i=2:=by omega
   exact hK _ _ h3 ((BN o3).mono λz hz _=>by omega) (m3.is_nw k2 λz hz=>by omega)
end
end Eva
end
section
open Go Go.RowKit
theorem vc:∀{k:Nat},k<=6->dP k<=9000000000000000000:=fun {k} hk=>by
 have:∀k,k<7->dP k<=9000000000000000000:=by decide
 exact this k (by omega)
namespace Eva
section
variable {h h':AH}{Q:Value->AH->Prop}{Fa F Fo Fp:Nat->Prop}{N:ab}{p:List (List Int)}{g o C n K a k s t:Nat}{A:Option Addr}{costs:List Int}
theorem Ak (G:GrA h Fa F g N) (hs:Sa aY Fp h A n K p) (hpo:ax N.nv p) (h1:1<=k) (hkl:k<=p.length) (ha:a<N.na) (hne:cel p k (N.fr a)≠cel p k (N.to a)) (hK:∀h',Nw h h'->Q (.tuple #[.int .i64 (cel p k (N.fr a):Int),.int .i64 (cel p k (N.to a):Int)]) h') :
  WC Tryz.prog 87 [.pointer (some ⟨g,0,none⟩),.agg #[.slice A n K],.int .i64 k,.int .i64 a] h Q:=by
 have hp6:=hpo.few
 have hnv:=hpo.nv_
 have ln:=hs.len
 refine sV λh1' e1=>?_
 obtain⟨k1,g1,z1⟩:=aj e1
 have wl:IntKind.i64.wrap ((k:Int) - 1)=((k - 1:Nat):Int):=by rw[Int.natCast_sub h1];exact ah (by omega) (by omega)
 obtain⟨b3,o3,A3,n3,K3,row,hA3,-,-,hrow,r0,srow⟩:=(hs.nw k1).row (k:=k - 1) (by omega)
 obtain⟨hrl,hrx⟩:=cF hpo hrow
 have hn3:n3=N.nv:=by rw[<-srow.len];exact hrl
 subst hn3
 have hf:=ab.fr_lt G.ok ha
 have ht:=ab.to_lt G.ok ha
 obtain⟨b4,o4,x,hA4,-,-,hx,x0⟩:=srow.int (k:=N.fr a) hf.1
 obtain⟨b5,o5,y,hA5,-,-,hy,y0⟩:=srow.int (k:=N.to a) ht.1
 subst hA4
 injection hA5 with hA5
 injection hA5 with hA5 hA6
 subst hA5 hA6
 obtain⟨x',hx',xn,-⟩:=hrx _ hf.1
 obtain rfl:=Option.some.inj (hx.symm.trans hx')
 obtain⟨y',hy',yn,-⟩:=hrx _ ht.1
 obtain rfl:=Option.some.inj (hy.symm.trans hy')
 have ex:=cn hrow hx
 have ey:=cn hrow hy
 have hx2:x=(cel p k (N.fr a):Int):=by omega
 have hy2:y=(cel p k (N.to a):Int):=by omega
 have ff:=hf.1
 have tt:=ht.1
 refine⟨λh=>absurd h (by omega),λ_=>⟨_,_,_,aa g1 rfl,λh=>absurd h (by omega),λ_=>⟨_,_,_,aa g1 rfl,_,wl,k - 1,rfl,b3,o3,hA3,by omega,_,_,_,r0,pV (G.nw k1) ha ⟨_,rfl,aTo (G.nw k1) ha ⟨_,rfl,λh=>absurd h (by omega),λ_=>⟨λh=>absurd h (by omega),λ_=>⟨λh=>absurd h (by omega),λ_=>⟨λh=>absurd h (by omega),λ_=>⟨N.fr a,rfl,_,_,rfl,ff,_,x0,N.to a,rfl,tt,_,y0,λhe=>absurd he (by omega),λ_=>⟨ff,_,x0,tt,_,y0,?_⟩⟩⟩⟩⟩⟩⟩⟩⟩⟩
 have:=hK h1' k1
 rw[<-hx2,<-hy2]at this
 exact this
theorem BO (G:GrA h Fa F g N) (hs:Sa aY Fp h A n K p) (hpo:ax N.nv p) (h1:1<=k) (hkl:k<=p.length) (ha:a<N.na) (hne:cel p k (N.fr a)≠cel p k (N.to a)) (hK:∀h',Nw h h'->Q (.int .i64 (cel p k (N.to a):Int)) h') :
  WC Tryz.prog 41 [.pointer (some ⟨g,0,none⟩),.agg #[.slice A n K],.int .i64 k,.int .i64 a] h Q:=by
 refine oW λh1' e1=>?_
 obtain⟨k1,g1,z1⟩:=aj e1
 exact⟨_,_,_,dL (aa g1 rfl),Ak (G.nw k1) (hs.nw k1) hpo h1 hkl ha hne λh2 k2=>⟨_,_,rfl,hK h2 (k1.trans k2)⟩⟩
theorem BP (G:GrA h Fa F g N) (hs:Sa aY Fp h A n K p) (hpo:ax N.nv p) (h1:1<=k) (hkl:k<=p.length) (ha:a<N.na) (hne:cel p k (N.fr a)≠cel p k (N.to a)) (hK:∀h',Nw h h'->Q (.int .i64 (cel p k (N.fr a):Int)) h') :
  WC Tryz.prog 42 [.pointer (some ⟨g,0,none⟩),.agg #[.slice A n K],.int .i64 k,.int .i64 a] h Q:=by
 refine oX λh1' e1=>?_
 obtain⟨k1,g1,z1⟩:=aj e1
 exact⟨_,_,_,dL (aa g1 rfl),Ak (G.nw k1) (hs.nw k1) hpo h1 hkl ha hne λh2 k2=>⟨_,_,rfl,hK h2 (k1.trans k2)⟩⟩
theorem Am (hok:N.Ok) (hpo:ax N.nv p) (hco:ch N p costs) (h1:1<=k) (hkl:k<=p.length) (hs:s<N.na) (hin:N.inA p k (cel p k (N.to s)) s) (ht:t∈N.outs p k (cel p k (N.to s))) :
  N.start p k (cel p k (N.to s))+((N.ins p k (cel p k (N.to s))).idxOf s*(N.outs p k (cel p k (N.to s))).length+(N.outs p k (cel p k (N.to s))).idxOf t)<N.size p/\
  (costs.map (Value.int .i64))[N.start p k (cel p k (N.to s))+((N.ins p k (cel p k (N.to s))).idxOf s*(N.outs p k (cel p k (N.to s))).length+(N.outs p k (cel p k (N.to s))).idxOf t)]? = some (.int .i64 (N.ent p costs k s t)):=by
 have hcm:=cE hpo h1 hkl (ab.to_lt hok hs).1
 have hse:=ab.start_end (N:=N) (p:=p) h1 hkl hcm
 have i1:=List.idxOf_lt_length_of_mem (ab.mem_ins.2 ⟨hs,hin⟩)
 have i2:=List.idxOf_lt_length_of_mem ht
 have hpl:=lB i1 i2
 unfold ab.sz at hse
 have hl:=hco.1
 refine⟨by omega,?_⟩
 rw[List.getElem?_map,List.getElem?_eq_getElem (by omega)]
 unfold ab.ent at_
 rw[List.getElem?_eq_getElem (by omega)]
 rfl
theorem Ep (G:GrA h Fa F g N) (O:OvA h Fo o N p) (bc:Bk h C (costs.map (Value.int .i64)) 2) (hC:C<h.next) (hco:ch N p costs) (hsz:N.size p<1000000) (hna3:N.na<=300)
  (h1:1<=k) (hkl:k<=p.length) (hs:s<N.na) (hin:N.inA p k (cel p k (N.to s)) s) (ht:t∈N.outs p k (cel p k (N.to s))) (hent:N.ent p costs k s t<INF)
  (hK:∀(A:Option Addr) (K:Nat) (l:List Nat) (h':AH),Sa cI (λz=>h.next<=z) h' A (1+l.length) K (ints (s :: l))->bp N.e N.tr (N.win p k (cel p k (N.to s))) t s (N.ent p costs k s t).toNat l->l.length<=fJ (N.xlev p) N.na k->Nw h h'->Q (.tuple #[.slice A (1+l.length) K,.nilIface]) h') :
  WC Tryz.prog 13 [.pointer (some ⟨g,0,none⟩),.pointer (some ⟨o,0,none⟩),.slice (some ⟨C,0,none⟩) (N.size p) (cx (N.size p)),.int .i64 k,.int .i64 s,.int .i64 t] h Q:=by
 have hok:=G.ok
 have hpo:=O.hp
 have hp6:=hpo.few
 have hto:=(ab.to_lt hok hs).1
 obtain⟨htn,hta⟩:=ab.mem_outs.1 ht
 have hcm:=cE hpo h1 hkl hto
 have hsm:=ab.mem_ins.2 ⟨hs,hin⟩
 obtain⟨hat,hval⟩:=Am hok hpo hco h1 hkl hs hin ht
 obtain⟨c,hc⟩:∃c,cel p k (N.to s)=c:=⟨_,rfl⟩
 have hs_ne:cel p k (N.fr s)≠cel p k (N.to s):=λe=>hin.2 (e.trans hc |>.trans hc.symm)
 have ht_ne:cel p k (N.fr t)≠cel p k (N.to t):=λe=>hta.2 (e ▸ hta.1)
 refine sU ⟨λh=>absurd h (by omega),λ_=>rp O ⟨_,rfl,λh=>absurd h (by omega),λ_=>zx O ⟨_,rfl,λ_=>zP O λA2 K2 h5 s5 k5=>⟨_,_,_,rfl,λh6 e6=>?_⟩,λh=>absurd rfl h⟩⟩⟩
 obtain⟨h7,s7,k7,g7,z7⟩:=ay (vs:=[.slice A2 p.length K2]) e6 rfl (by simp[flat])
 have k57:=k5.trans k7
 refine⟨h7,s7,_,_,_,dL (aa g7 rfl),BO (G.nw k57) (s5.nw k7) hpo h1 hkl hs hs_ne λh8 k8=>⟨_,rfl,λh=>absurd h (by omega),λ_=>⟨_,_,_,dL (aa (k8.bk (by omega) g7) rfl),BP (G.nw (k57.trans k8)) ((s5.nw k7).nw k8) hpo h1 hkl htn ht_ne λh10 k10=>⟨_,rfl,λ_=>?_,λhn=>absurd (by rw[hta.1]) hn⟩⟩⟩⟩
 have k010:=(k57.trans k8).trans k10
 refine tj (O.nw k010) h1 hkl hcm λA5 K5 A6 K6 h11 s11 t11 k11=>⟨_,_,_,_,_,_,rfl,λh12 e12=>?_⟩
 obtain⟨h13,s13,k13,g13,z13⟩:=ay (vs:=[.slice A5 (N.ins p k (cel p k (N.to s))).length K5,.slice A6 (N.outs p k (cel p k (N.to s))).length K6]) e12 rfl (dR rfl rfl)
 have k013:=(k010.trans k11).trans k13
 have hna:=G.few.2
 have hil:(N.ins p k (cel p k (N.to s))).length<=N.na:=aC _ _
 have hol:(N.outs p k (cel p k (N.to s))).length<=N.na:=aC _ _
 have pl1:bg (N.ins p k (cel p k (N.to s))) s=(((N.ins p k (cel p k (N.to s))).idxOf s:Nat):Int):=by unfold bg;rw[if_pos hsm]
 have pl2:bg (N.outs p k (cel p k (N.to s))) t=(((N.outs p k (cel p k (N.to s))).idxOf t:Nat):Int):=by unfold bg;rw[if_pos ht]
 refine⟨h13,s13,_,_,_,aa g13 rfl,_,_,_,aa g13 rfl,ie s (s11.nw k13) (aV _ _) (by omega) ⟨_,rfl,aa g13 rfl,t11.eqok,ie t (t11.nw k13) (aV _ _) (by omega) ⟨_,rfl,?_⟩⟩⟩
 rw[pl1,pl2]
 refine oAt (O.nw k013) h1 hkl hcm (List.idxOf_lt_length_of_mem hsm) (List.idxOf_lt_length_of_mem ht) λh16 k16=>⟨_,rfl,λh=>absurd h (by omega),λ_=>?_⟩
 have k016:=k013.trans k16
 have bc16:=k016.bk hC bc
 have b0:=(va hok hpo hco h1 hkl hs hin ht).bd
 refine⟨_,rfl,C,0,rfl,hat,_,(aP bc16 _).trans (by rw[Nat.zero_add];exact hval),λh=>absurd h (by unfold INF at hent;omega),λ_=>?_⟩
 refine vb (G.nw k016) (O.nw k016) λq mp bf dn hp cA cK D S h19 B19 R19=>⟨_,rfl,?_⟩
 have k19:=B19.nw
 have htk:=vc (k:=k) (by omega)
 refine Co (G.nw k016) (O.nw k016) bc16 (by have:=k016.next;omega) hco hsz hna3 k B19 R19 h1 hkl hs hin ht hent ⟨Int.le_refl _,by omega⟩ ⟨Int.le_refl _,by omega⟩ λA9 K9 l D' S' done' w' par' rd' lp' h20 s20 r20 l20 B20 R20 _ _ _ _ _=>⟨_,_,_,true,rfl,λ_=>?_,λh=>Bool.noConfusion h⟩
 have k020:=k016.trans B20.nw
 refine λh21 e21 h22 e22=>?_
 obtain⟨k21,g21,z21⟩:=aj e21
 obtain⟨k22,g22,z22⟩:=aj e22
 have k2022:=k21.trans k22
 have z19:=k19.next
 have z016:=k016.next
 have z20:=B20.nw.next
 have hpk:=nL (x:=N.xlev p) (n:=N.na) (k:=k) hna3 (by omega)
 have sx:Sa cI (λz=>h.next<=z) h22 (some ⟨h20.next,0,none⟩) 1 2 (ints [s]):=Sa.of_ints (k:=.i64) (k22.bk (by omega) g21) rfl (by omega) (by omega)
 have sy:Sa cI (λz=>h.next<=z) h22 A9 l.length K9 (ints l):=(s20.nw k2022).mono λz hz _=>by have:=hz.1;omega
 refine Aj (xs:=ints [s]) (zs:=ints l) (n:=1) (m:=l.length) g22 (by omega) sx sy (by omega) (by omega) λA' K' h23 s23 k23=>⟨_,_,_,rfl,?_⟩
 have e:ints [s] ++ ints l=ints (s :: l):=rfl
 rw[e]at s23
 exact hK A' K' l h23 (s23.mono λz hz _=>by omega) r20 l20 ((k020.trans k2022).trans k23)
end
end Eva
end
section
open Go Go.RowKit
namespace Eva
section
variable {h h':AH}{F G H Fl:Nat->Prop}{Q:Value->AH->Prop}{A Av Aa At Ap Al Ar:Option Addr}{n K nv Kv na Ka nt Kt np Kp nl Kl nr Kr:Nat}{N:ab}{p:List (List Int)}{ls:List (List Chg)}{rs:List Int}
theorem BQ (hK:Q (.bool true) h):WC Tryz.prog 4 [] h Q:=WC.orc (by rfl) hK
theorem Sz.rd {xs:List Int}(hs:Sz cI F h A n K xs) (hn:0<n):∃b o,A=some ⟨b,o,none⟩/\F b/\b<h.next/\∀{h':AH},Nw h h'->∀{j:Nat}{x:Int},xs[j]? = some x->ldC h' b (o+j)=some (.int .i64 x):=by
 obtain⟨b,o,hA,hF,hb,hx⟩:=hs.at_ hn
 refine⟨b,o,hA,hF,hb,fun {h'} a {j x} hj=>?_⟩
 obtain⟨cs,q1,q2⟩:=hx j x hj
 have q2':cs = [.int .i64 x]:=q2
 have:=q1 0 (.int .i64 x) (by rw[q2'];rfl)
 rw[a.ldC hb]
 simpa[Rc.int]using this
theorem vd (Z0:cz h F Av nv Kv Aa na Ka At nt Kt N) (hs0:Sz (Rc.sliceZ cI) G h Ap np Kp p) (hmx:np<=9223372036854775807) (hl0:Sz (Rc.sliceZ dt) Fl h Al nl Kl ls) (hml:nl<=9223372036854775807){lv:Nat}(hlv:lv<=255) (hr0:Sz cI H h Ar nr Kr rs) :
  WC Tryz.prog 3 [.agg #[.slice Av nv Kv,.slice Aa na Ka,.slice At nt Kt],.agg #[.slice Ap np Kp],.slice Al nl Kl,.int .u8 lv,.slice Ar nr Kr] h (λv h'=>v = .bool true/\Nw h h'):=by
 have Z:=Z0.old
 have hs:Sz (Rc.sliceZ cI) (λz=>z<h.next) h Ap np Kp p:=hs0.mono λz _ hz=>hz
 have hl:Sz (Rc.sliceZ dt) (λz=>z<h.next) h Al nl Kl ls:=hl0.mono λz _ hz=>hz
 have hr:Sz cI (λz=>z<h.next) h Ar nr Kr rs:=hr0.mono λz _ hz=>hz
 have la:N.na=na:=Z.xa.len
 have lp:p.length=np:=hs.len
 have lr:=hr.len
 refine kP λh1 e1 h2 e2=>?_
 obtain⟨k1,g1,z1⟩:=aj e1
 obtain⟨k2,g2,z2⟩:=aj e2
 have k12:=k1.trans k2
 have g12:=k2.bk (by omega) g1
 have bN:∀{h'},Nw h2 h'->ldN h' h.next 0 3=some [.slice Av nv Kv,.slice Aa na Ka,.slice At nt Kt]:=λa=>aG (aa (a.bk (by omega) g12) rfl) (aa (a.bk (by omega) g12) rfl) (aa (a.bk (by omega) g12) rfl)
 have bQ:∀{h'},Nw h2 h'->ldC h' h1.next 0=some (.slice Ap np Kp):=λa=>aa (a.bk (by omega) g2) rfl
 refine BQ ⟨true,rfl,λ_=>⟨_,_,_,_,_,_,_,_,_,bN (Nw.refl _),_,_,_,dL (bQ (Nw.refl _)),EC (Z.nw k12) (hs.nw k12) hmx λb2 h4 k4 hb2=>⟨b2,rfl,λht=>?_,λ_=>⟨rfl,k12.trans k4⟩⟩⟩,λh=>Bool.noConfusion h⟩
 obtain⟨hf,ok,hv60,hp10,hp60,hp⟩:=hb2 ht
 have k04:=k12.trans k4
 refine El (hl.nw k04) hml λb3 hb3=>⟨b3,rfl,λht3=>⟨λ_=>⟨rfl,k04⟩,λhle=>?_⟩,λ_=>⟨rfl,k04⟩⟩
 obtain⟨hl6,hl3⟩:=hb3 ht3
 have hnp:1<=np:=by have:=hp.some_;omega
 have hnp6:np<=6:=by have:=hp.few;omega
 have hna3:N.na<=300:=hf.2.1
 obtain⟨M,hM⟩:∃M,N.behind ls=M:=⟨_,rfl⟩
 have S:=ab.behind_shp ls N
 have okM:=ab.behind_ok ls ok
 refine⟨_,_,_,_,_,_,_,_,_,bN k4,BL (Z.nw k04) hf ok (hl.nw k04) (by omega) hl3 λA14 n14 K14 A15 n15 K15 A16 n16 K16 h6 Z6 k6=>⟨_,_,_,_,_,_,_,_,_,rfl,λh7 e7=>?_⟩⟩
 rw[hM]at Z6 S okM
 have hpM:ax M.nv p:=by rw[S.nv];exact hp
 have hnaM:M.na<=300:=by rw[S.na];exact hna3
 obtain⟨h8,s8,k8,g8,z8⟩:=ay (vs:=[.slice A14 n14 K14,.slice A15 n15 K15,.slice A16 n16 K16]) e7 rfl (by simp[flat])
 have k48:=k6.trans k8
 have k28:=k4.trans k48
 have k08:=k12.trans k28
 have bM:∀{h'},Nw h8 h'->ldN h' h6.next 0 3=some [.slice A14 n14 K14,.slice A15 n15 K15,.slice A16 n16 K16]:=λa=>aG (aa (a.bk (by omega) g8) rfl) (aa (a.bk (by omega) g8) rfl) (aa (a.bk (by omega) g8) rfl)
 obtain⟨k,hk⟩:∃k,lv % np+1=k:=⟨_,rfl⟩
 have hlm:lv % np<np:=Nat.mod_lt _ (by omega)
 have wl:IntKind.i64.wrap (lv:Int)=(lv:Int):=ah (by omega) (by omega)
 have wk:IntKind.i64.wrap (1+((lv % np:Nat):Int))=(k:Int):=by rw[ah (by omega) (by omega)];omega
 have wk1:IntKind.i64.wrap ((k:Int) - 1)=((k - 1:Nat):Int):=by rw[Int.natCast_sub (by omega)];exact ah (by omega) (by omega)
 obtain⟨b3,o3,A19,n19,K19,row,hA3,-,hb3',hrow,r0,srow⟩:=(hs.nw k08).rowZ (k:=k - 1) (by omega)
 have hk1:1<=k:=by omega
 have hkl:k<=p.length:=by omega
 refine⟨h8,s8,_,wl,_,_,_,bQ k28,((lv % np:Nat):Int),by omega,rfl,_,wk,_,_,_,bQ k28,_,wk1,k - 1,rfl,b3,o3,hA3,by omega,_,_,_,r0,_,_,_,_,_,_,_,_,_,bM (Nw.refl _),?_⟩
 refine tJ (Z6.nw k8) okM (by omega) hpM hk1 hkl hrow srow (hr.nw k08) (by omega) (λh9 k9 _=>⟨0,false,rfl,λh=>Bool.noConfusion h,λ_=>⟨rfl,k08.trans k9⟩⟩) λs t l x h9 k9 T hg=>⟨x,true,rfl,λ_=>?_,λh=>Bool.noConfusion h⟩
 have hsn:=T.lts.1
 have htn:=T.lts.2
 have k29:=k28.trans k9
 have k09:=k08.trans k9
 have hnpos:0<na:=by have:=S.na;omega
 refine⟨_,_,_,_,_,_,_,_,_,bN k29,_,_,_,dL (bQ k29),Dg (Z.nw k09) hf ok hnpos (hs.nw k09) hp (hl.nw k09) (by omega) hl3 λg o C costs h10 R10 k10=>⟨_,_,_,_,_,_,rfl,λ_=>?_,λh=>Bool.noConfusion h⟩⟩
 rw[hM]at R10
 have hszE:M.size p=N.size p:=S.size
 rw[<-hszE]
 obtain⟨⟨Fa,Ft,F',X,lo,Fo,O,lo2,nC⟩,cs,cp,co,nn⟩:=R10
 have k010:=k09.trans k10
 have k810:=k9.trans k10
 have hsz:M.size p<1000000:=kj hnaM hpM.few
 obtain⟨l',hl'⟩:=T.last
 have hrl:rs.length=l.length+1:=by rw[T.eq];simp[ints]
 have hll:1<=l.length:=by rw[hl'];simp
 have h0s:rs[0]? = some (s:Int):=by rw[T.eq];rfl
 have hlast:rs[nr - 1]? = some (t:Int):=by
  have e:nr - 1=(s :: l').length:=by rw[hl']at hrl;simp at hrl;simp;omega
  rw[T.eq,hl',e]
  simp[ints]
 obtain⟨b2,o2,hA2,-,-,rdR⟩:=hr.rd (by omega)
 have hts:=ab.to_lt okM hsn
 obtain⟨b5,o5,u,v,w,hA5,-,hl5,hu,-,f1,-⟩:=(Z6.nw (k8.trans k810)).xa.tri (k:=s) (by have:=Z6.xa.len;unfold ab.na at hsn;omega)
 have harc:M.arc s=(u,v,w):=by unfold ab.arc;rw[hu];rfl
 have hv':v=(M.to s:Int):=by have:=hts.2;rw[harc]at this;exact this
 subst hv'
 obtain⟨hrwl,hrwx⟩:=cF hpM hrow
 have hn19:n19=M.nv:=by rw[<-srow.len];exact hrwl
 subst hn19
 obtain⟨b4,o4,hA4,-,-,rdC⟩:=srow.rd (by omega)
 obtain⟨y,hy,yn,-⟩:=hrwx _ hts.1
 have cy:=cn hrow hy
 obtain⟨c,rfl⟩:=Int.eq_ofNat_of_zero_le yn
 have hc:cel p k (M.to s)=c:=by rw[cy];simp
 have hin:=T.in_
 have hmem:=T.mem
 have w1:IntKind.i64.wrap ((nr:Int) - 1)=((nr - 1:Nat):Int):=by rw[Int.natCast_sub (by omega)];exact ah (by omega) (by omega)
 have bA:ldC h10 h6.next 1=some (.slice A15 n15 K15):=aa (k810.bk (by omega) g8) rfl
 subst hA4
 refine⟨b2,o2,hA2,by omega,_,rdR k010 h0s,_,w1,nr - 1,rfl,by omega,_,rdR k010 hlast,_,_,_,bA,s,rfl,b5,o5,hA5,by have:=Z6.xa.len;unfold ab.na at hsn;omega,_,f1,M.to s,rfl,b4,o4,rfl,hts.1,_,rdC k810 hy,?_⟩
 have hcm:=cE hpM hk1 hkl hts.1
 rw[hc]at hcm
 refine tj O hk1 hkl hcm λA29 K29 A30 K30 h11 s11 t11 k11=>⟨_,_,_,_,_,_,rfl,λh12 e12=>?_⟩
 obtain⟨h13,s13,k13,g13,z13⟩:=ay (vs:=[.slice A29 (M.ins p k c).length K29,.slice A30 (M.outs p k c).length K30]) e12 rfl (dR rfl rfl)
 have k1013:=k11.trans k13
 rw[hc]at hmem
 have hil:(M.ins p k c).length<=M.na:=aC _ _
 have hol:(M.outs p k c).length<=M.na:=aC _ _
 have pl1:bg (M.ins p k c) s=(((M.ins p k c).idxOf s:Nat):Int):=by unfold bg;rw[if_pos hmem.1]
 have pl2:bg (M.outs p k c) t=(((M.outs p k c).idxOf t:Nat):Int):=by unfold bg;rw[if_pos hmem.2]
 refine⟨h13,s13,_,_,_,aa g13 rfl,_,_,_,aa g13 rfl,ie s (s11.nw k13) (aV _ _) (by omega) ⟨_,rfl,aa g13 rfl,t11.eqok,ie t (t11.nw k13) (aV _ _) (by omega) ⟨_,rfl,?_⟩⟩⟩
 rw[pl1,pl2]
 refine oAt (O.nw k1013) hk1 hkl hcm (List.idxOf_lt_length_of_mem hmem.1) (List.idxOf_lt_length_of_mem hmem.2) λh16 k16=>⟨_,rfl,λh=>absurd h (by omega),λ_=>?_⟩
 have k1016:=k1013.trans k16
 have cs16:=k1016.bk cp.2 cs
 have ht':t∈M.outs p k (cel p k (M.to s)):=by rw[hc];exact hmem.2
 obtain⟨hat,hval⟩:=Am okM hpM co hk1 hkl hsn hin ht'
 rw[hc]at hat hval
 obtain⟨hle1,hlt1⟩:=T.least okM hpM co hk1 hkl (by omega) hg
 have hval':∀{h'},Nw h16 h'->ldC h' C (0+(M.start p k c+((M.ins p k c).idxOf s*(M.outs p k c).length+(M.outs p k c).idxOf t)))=some (.int .i64 (M.ent p costs k s t)):=λa=>(aP (a.bk (by have:=k1016.next;omega) cs16) _).trans (by rw[Nat.zero_add];exact hval)
 have z1016:=k1016.next
 refine⟨λh=>absurd h (by omega),λ_=>⟨_,rfl,C,0,rfl,hat,_,hval' (Nw.refl _),λh=>absurd h (by omega),λ_=>?_⟩⟩
 refine Ep (X.gr.nw k1016) (O.nw k1016) cs16 (by omega) co hsz hnaM hk1 hkl hsn hin ht' (by omega) λA33 K33 l2 h17 s17 r17 l17 k17=>⟨_,_,_,none,rfl,_,_,_,_,_,_,_,_,_,bM ((k810.trans k1016).trans k17),?_⟩
 have k817:=(k810.trans k1016).trans k17
 have b0:=(va okM hpM co hk1 hkl hsn hin ht').bd
 have hpk:=nL (x:=M.xlev p) (n:=M.na) (k:=k) hnaM (by omega)
 obtain⟨T2,hg2⟩:=zu okM hsn hin T.out b0.1 (by omega) r17
 refine tJ ((Z6.nw k8).nw k817) okM (by omega) hpM hk1 hkl hrow (srow.nw k817) s17.z (by omega) (λh18 k18 hno=>absurd (hno s t l2 T2) (by rw[hg2];exact λh=>by cases h)) λs' t' l3 x' h18 k18 T3 hg3=>⟨x',true,rfl,λ_=>⟨λ_=>?_,λt u h=>by cases h⟩,λh=>Bool.noConfusion h⟩
 have e3:=tI T3.eq
 injection e3 with e4 e5
 subst e4 e5
 rw[hg2]at hg3
 have ex:=Option.some.inj hg3
 obtain⟨l5,hl5'⟩:=r17.end_
 obtain⟨b6,o6,hA6,-,-,rd6⟩:=s17.z.rd (by omega)
 have w33:IntKind.i64.wrap (((1+l2.length:Nat):Int) - 1)=((l2.length:Nat):Int):=by rw[ah (by omega) (by omega)];omega
 have hlast2:(ints (s :: l2))[l2.length]? = some (t:Int):=by
  rw[hl5']
  have e:(l5 ++ [t]).length=(s :: l5).length:=by simp
  rw[e]
  simp[ints]
 refine⟨b6,o6,hA6,by omega,_,rd6 k18 (j:=0) rfl,λ_=>⟨_,w33,l2.length,rfl,by omega,_,rd6 k18 hlast2,λ_=>⟨hat,_,hval' (k17.trans k18),λ_=>⟨rfl,((k010.trans k1016).trans k17).trans k18⟩,λhne=>absurd ex.symm hne⟩,λhne=>absurd rfl hne⟩,λhne=>absurd rfl hne⟩
end
end Eva
end
end Go.Proofs.YtaomlhopkfmheaaGreatDoor
