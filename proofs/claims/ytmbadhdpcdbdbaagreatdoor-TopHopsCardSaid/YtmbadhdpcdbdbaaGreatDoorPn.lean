/-
Lemmas for TopHops. No condition.
-/
import Derived.Test.YtmbadhdpcdbdbaaGreatDoorPl
import Derived.Test.YtmbadhdpcdbdbaaGreatDoorPm
import Derived.Test.YtmbadhdpcdbdbaaGreatDoorPi
import Derived.Test.YtmbadhdpcdbdbaaGreatDoorPf
import Derived.Test.YtmbadhdpcdbdbaaGreatDoorW7
import Derived.Test.YtmbadhdpcdbdbaaGreatDoorPg
namespace Go.Proofs.YtmbadhdpcdbdbaaGreatDoor
open _root_.Go.IntKind renaming i64->ψ
open _root_.Go.Value renaming int->ξ,pointer->μ,slice->ω
open _root_.Option renaming none->ν,some->η
set_option linter.unusedVariables false
set_option linter.unusedSimpArgs false
set_option linter.unusedSectionVars false
set_option linter.unnecessarySimpa false
section
open Go Go.RowKit
namespace Eva
section
variable {h h':AH}{Fa F Fp:Nat->Prop}{g:Nat}{N:ab}{p:List (List Int)}{Q:Value->AH->Prop}{A:Option Addr}{n K:Nat}
def uU (f:Nat->Nat) (i:Nat):List Int:=(List.range i).map λa=>((f a:Nat):Int)
theorem pC (f:Nat->Nat) (i:Nat):uU f (i+1)=uU f i ++ [((f i:Nat):Int)]:=by
 unfold uU;rw[List.range_succ,List.map_append];rfl
theorem uV (N:ab) (p:List (List Int)) (k:Nat):(N.startsL p k).length=aq p k:=by simp[ab.startsL]
theorem Ci (G:eA h Fa F g N) (hp:aB N.nv p) (hs:Sa bh Fp h A n K p) (hfew:N.size p<=10000000)
  (hK:∀o h',eL h' (λb=>h.next<=b) o N p->Nw h h'->Q (.tuple #[μ (η ⟨o,0,ν⟩),.nilIface]) h'):WC Tryz.prog 141 [μ (η ⟨g,0,ν⟩),.agg #[ω A n K]] h Q:=by
 have hn:=hs.len;have h6:=hp.few;have hna:=G.few.2;have hnv:=G.few.1;refine vX λh1 e1=>?_;obtain⟨k1,g1,z1⟩:=aj e1;have box:∀{h'},Nw h1 h'->au h' h.next 0 1=η [ω A n K]:=λa=>eo (aa (a.bk U g1) rfl);refine⟨A,n,K,box (Nw.refl _),BL (G.nw k1) ⟨_,rfl,box (Nw.refl _),BW hs.eqok,pz (hs.nw k1) hp λh3 k3=>⟨ν,rfl,λ_=>⟨A,n,K,box k3,A,n,K,box k3,?_⟩,λt u h=>by cases h⟩⟩⟩;refine Ew (hs.nw (k1.trans k3)) U (λx hx=>by rw[hp.rows x hx];omega) λA5 K5 h4 s4 k4=>⟨_,_,_,rfl,box (k3.trans k4),BW hs.eqok,?_⟩;have k14:=k3.trans k4;refine DJ (G.nw (k1.trans k14)) hp (hs.nw (k1.trans k14)) λA6 n6 K6 h5 s5 k5=>⟨_,_,_,rfl,λh6' e6=>?_⟩;obtain⟨k6,g6,z6⟩:=aj e6;have k16:=(k14.trans k5).trans k6;have z3:=k3.next;have z4:=k4.next;have z5:=k5.next;have hn6:n6=p.length:=by have:=s5.len;simpa using this.symm
 refine mB (G.nw (k1.trans k16)) ⟨_,rfl,λm x h8=>∃(i:Nat) (A1:Option Addr) (K1:Nat) (A2:Option Addr) (K2:Nat),x=i/\i<=N.na/\m=N.na - i/\Bk h8 h5.next [ω A5 n K5,ω A1 i K1,ω A2 i K2,ω A6 n6 K6,ω ν 0 0,ξ ψ 0] 193/\
  al cI h8 (ah A1) 3 A1 i K1 (uU N.fr i)/\al cI h8 (ah A2) 3 A2 i K2 (uU N.to i)/\(∀z,ah A1 z->h6'.next<=z)/\(∀z,ah A2 z->h6'.next<=z)/\(∀z,ah A1 z->¬ah A2 z)/\Mt (λz=>z=h5.next) h6' h8,N.na,⟨0,ν,0,ν,0,rfl,Nat.zero_le _,rfl,g6,al.nil _ _ _ _,al.nil _ _ _ _,λz hz=>hz.elim,λz hz=>hz.elim,λz hz=>hz.elim,Mt.refl _ _⟩,?_⟩
 rintro m x h8 ⟨i,A1,K1,A2,K2,rfl,hi,hm,b8,o1,o2,lo1,lo2,dj,m8⟩;have z8:=m8.next;have G8:eA h8 Fa F g N:=(G.nw (k1.trans (k14.trans k5))).nw ((Mt.of k6).then m8 |>.is_nw (Nw.refl _) λz hz=>U);refine⟨λhlt=>?_,λhge=>?_⟩
 .have wi:IntKind.i64.wrap ((i:Int)+1)=((i+1:Nat):Int):=by rw[Int.natCast_succ];exact af U U
  refine⟨_,_,_,aa b8 rfl,pp G8 U ⟨_,rfl,aa b8 rfl,o1.spot,λh10 e10=>?_⟩⟩;obtain⟨k10,g10,z10⟩:=aj e10;obtain⟨A1',K1',h11,y1,y2,y3,y4⟩:=aV eM dC (o1.nw k10) (Sz.one (r:=cI) (L:=2) (F:=λz=>z=h8.next) g10 rfl U rfl rfl) U U;have z11:=y3.next;have b11:=y3.bk U (λho=>by have:=lo1 _ ho;omega) (k10.bk U b8);obtain⟨h12,s12,b12,z12,q12⟩:=aD (v:=ω A1' (i+1) K1') b11 (o:=1) (by simp) rfl;have m12:Mt (λz=>z=h5.next) h11 h12:=⟨U,λz _ hn=>q12 z hn⟩;have lo1':∀z,ah A1' z->h6'.next<=z:=λz hz=>(y4 z hz).elim (lo1 z) (λh=>U);have o1':=y2.off m12 λz hz _ e=>by have:=lo1' z hz;omega
  have o2':=((o2.nw k10).off y3 λz hz _ ho=>dj z ho hz).off m12 λz hz _ e=>by have:=lo2 z hz;omega
  have m812:Mt (λz=>z=h5.next) h6' h12:=((m8.nw k10).trans y3 λz hz hlt=>by have:=lo1 z hz;omega).then m12;have G12:eA h12 Fa F g N:=(G.nw (k1.trans (k14.trans k5))).nw ((Mt.of k6).then m812 |>.is_nw (Nw.refl _) λz hz=>U);refine⟨A1',i+1,K1',h11,y1,h12,s12,_,_,_,aa b12 rfl,zU G12 U ⟨_,rfl,aa b12 rfl,o2'.spot,λh14 e14=>?_⟩⟩;obtain⟨k14',g14,z14⟩:=aj e14;obtain⟨A2',K2',h15,x1,x2,x3,x4⟩:=aV eM dC (o2'.nw k14') (Sz.one (r:=cI) (L:=2) (F:=λz=>z=h12.next) g14 rfl U rfl rfl) U U;have z15:=x3.next;have b15:=x3.bk U (λho=>by have:=lo2 _ ho;omega) (k14'.bk U b12);obtain⟨h16,s16,b16,z16,q16⟩:=aD (v:=ω A2' (i+1) K2') b15 (o:=2) (by simp) rfl;have m16:Mt (λz=>z=h5.next) h15 h16:=⟨U,λz _ hn=>q16 z hn⟩;have dj':∀z,ah A1' z->¬ah A2 z:=λz hz ho=>(y4 z hz).elim (λh=>dj z h ho) (λh=>by have:=o2.own ho;omega);refine⟨A2',i+1,K2',h15,x1,h16,s16,_,wi,N.na - (i+1),U,i+1,A1',K1',A2',K2',rfl,U,rfl,b16,?_,?_,lo1',λz hz=>(x4 z hz).elim (lo2 z) (λh=>U),λz hz ho=>(x4 z ho).elim (λh=>dj' z hz h) (λh=>by have:=o1'.own hz;omega),?_⟩
  .rw[pC];exact((o1'.nw k14').off x3 λz hz _ ho=>dj' z hz ho).off m16 λz hz _ e=>by have:=lo1' z hz;omega
  .rw[pC];exact x2.off m16 λz hz _ e=>(x4 z hz).elim (λh=>by have:=lo2 z h;omega) (λh=>U)
  .exact((m812.nw k14').trans x3 λz hz hlt=>by have:=lo2 z hz;omega).then m16
 .obtain rfl:i=N.na:=U;refine⟨A6,n6,K6,aa b8 rfl,λm x h17=>∃(k:Nat) (D:Nat->Prop) (A7:Option Addr) (K7:Nat),x=k/\k<=n6/\m=n6 - k/\Bk h17 h5.next [ω A5 n K5,ω A1 N.na K1,ω A2 N.na K2,ω A6 n6 K6,ω A7 k K7,ξ ψ ((bR (N.lsz p) k:Nat):Int)] 193/\
   al bh h17 D 48 A7 k K7 ((List.range k).map λj=>N.startsL p (j+1))/\(∀z,D z->h8.next<=z/\z<h17.next)/\Mt (λz=>z=h5.next) h8 h17,n6,⟨0,λ_=>False,ν,0,rfl,Nat.zero_le _,rfl,by simpa[bR]using b8,al.nil _ _ _ _,λz hz=>hz.elim,Mt.refl _ _⟩,?_⟩
  rintro m x h17 ⟨k,D,A7,K7,rfl,hk,hm,b17,o7,hD,m17⟩;have z17:=m17.next;have m617:=m8.then m17;have s617:Sa (Rc.slice Rc.gate) (λb=>h4.next<=b/\b<h5.next) h17 A6 n6 K6 ((List.range p.length).map λj=>N.gatesL p (j+1)):=((s5.mono λz hz hlt=>⟨hz,hlt⟩).nw k6).off m617 λz hz e=>U;refine⟨λhlt=>?_,λhge=>?_⟩
  .have hkl:k<p.length:=U;obtain⟨b1,p1,A12,n12,K12,x,hA,-,hb1,hx,e1',s12⟩:=s617.row (k:=k) U;have hx2:x=N.gatesL p (k+1):=by simp[hkl]at hx;exact hx.symm
   subst hx2;have hn12:aq p (k+1)=n12:=by have:=s12.len;simpa[ab.gatesL]using this
   have hmf:=xY hp (k:=k+1) U U;have wk:IntKind.i64.wrap ((k:Int)+1)=((k+1:Nat):Int):=by rw[Int.natCast_succ];exact af U U
   refine⟨k,rfl,b1,p1,hA,U,A12,n12,K12,e1',U,λh18 e18=>?_⟩;obtain⟨k18,g18,z18⟩:=aj e18;rw[a9]at g18;obtain⟨ys,hys⟩:∃ys,N.startsL p (k+1)=ys:=⟨_,rfl⟩;have hyl:ys.length=n12:=by rw[<-hys,uV,hn12]
   have hst0:N.start p (k+1) 0=bR (N.lsz p) k:=by simp[ab.start,bR]
   refine⟨λm x h19=>∃c:Nat,x=c/\c<=n12/\m=n12 - c/\Bk h19 h17.next ((ys.take c ++ List.replicate (ys.length - c) 0).map (Value.int .i64)) 3/\Bk h19 h5.next [ω A5 n K5,ω A1 N.na K1,ω A2 N.na K2,ω A6 n6 K6,ω A7 k K7,ξ ψ ((N.start p (k+1) c:Nat):Int)] 193/\Mt (λz=>z=h5.next) h17 h19/\h17.next<h19.next,n12,⟨0,rfl,Nat.zero_le _,rfl,?_,by rw[hst0];exact k18.bk U b17,Mt.of k18,U⟩,?_⟩
   .rw[List.take_zero,List.nil_append,hyl,Nat.sub_zero,List.map_replicate];exact g18
   rintro m' x h19 ⟨c,rfl,hc,hm',b19,a19,m19,lt19⟩;have z19:=m19.next;refine⟨λhlt'=>?_,λhge'=>?_⟩
   .have hc':c<aq p (k+1):=U;obtain⟨b2,p2,A13,n13,K13,A14,n14,K14,u,v,hA12,hF2,hb2,hy,e2,e3,s13,s14⟩:=(s12.off m19 λz hz e=>U).gate (k:=c) U;have hy2:(u,v)=(ints (N.ins p (k+1) c),ints (N.outs p (k+1) c)):=by simp[ab.gatesL,hc']at hy;rw[<-hy.1,<-hy.2]
    injection hy2 with q1 q2;subst q1 q2;have q3:(N.ins p (k+1) c).length=n13:=by simpa[ints]using s13.len
    have q4:(N.outs p (k+1) c).length=n14:=by simpa[ints]using s14.len
    refine⟨c,rfl,b2,p2,hA12,U,A13,n13,K13,A14,n14,K14,qp e2 e3,λh20 e20=>?_⟩;obtain⟨h21,s21,k21,g21,z21⟩:=aC (vs:=[ω A13 n13 K13,ω A14 n14 K14]) e20 rfl (dH rfl rfl);have a21:=k21.bk U a19;have b21:=k21.bk U b19;obtain⟨h22,s22,b22,z22,q22⟩:=aD (v:=ξ ψ ((N.start p (k+1) c:Nat):Int)) b21 (o:=0+c) (by simp;omega) rfl;have a22:=(q22 _ U).trans a21;have g22:=(q22 _ U).trans g21;have hse:=ab.start_end (N:=N) (k:=k+1) (c:=c) U U hc';have hsz:N.sz p (k+1) c=n13*n14:=by unfold ab.sz;rw[q3,q4]
    rw[hsz]at hse;obtain⟨t,ht⟩:∃t,n13*n14=t:=⟨_,rfl⟩;rw[ht]at hse hsz;have w1:IntKind.i64.wrap ((n13:Int)*(n14:Int))=(t:Int):=by rw[<-Int.natCast_mul,ht];exact af U U
    have hnx:N.start p (k+1) (c+1)=N.start p (k+1) c+t:=by rw[ab.start_cell,hsz]
    have w2:IntKind.i64.wrap (((N.start p (k+1) c:Nat):Int)+(t:Int))=((N.start p (k+1) (c+1):Nat):Int):=by rw[hnx,Int.natCast_add];exact af U U
    have wc:IntKind.i64.wrap ((c:Int)+1)=((c+1:Nat):Int):=by rw[Int.natCast_succ];exact af U U
    obtain⟨h23,s23,b23,z23,q23⟩:=aD (v:=ξ ψ ((N.start p (k+1) (c+1):Nat):Int)) a22 (o:=5) (by simp) rfl;refine⟨h21,s21,_,aa a21 rfl,U,h22,s22,_,aa a22 rfl,_,_,_,aa g22 rfl,_,_,_,aa g22 rfl,_,w1,_,w2,h23,s23,_,wc,n12 - (c+1),U,c+1,rfl,U,rfl,?_,b23,?_,U⟩
    .rw[Nat.zero_add,<-List.map_set]at b22;have hyc:ys[c]? = η ((N.start p (k+1) c:Nat):Int):=by rw[<-hys];simp[ab.startsL,hc']
     have hps:=pB (xs:=ys) hyc;rw[hps]at b22;exact(q23 _ U).trans b22
    .exact⟨U,λz hz hn=>(q23 z hn).trans ((q22 z U).trans ((k21.get z U).trans (m19.get z hz hn)))⟩
   .obtain rfl:c=n12:=U;rw[List.take_of_length_le U,hyl,Nat.sub_self,List.replicate_zero,List.append_nil]at b19;refine⟨_,_,_,aa a19 rfl,λh24 e24=>?_⟩;obtain⟨k24,g24,z24⟩:=aj e24;have o19:=(o7.off m19 λz hz _ e=>by have:=(hD z hz).1;omega).nw k24;have hz:Sz bh (λz=>z=h17.next\/z=h19.next) h24 (η ⟨h19.next,0,ν⟩) 1 2 [ys]:=Sz.one g24 (.inr rfl) U rfl ⟨η ⟨h17.next,0,ν⟩,c,cx c,rfl,Sa.of_ints (k24.bk U b19) hyl (.inl rfl) U⟩;obtain⟨A18,K18,h25,y1,y2,y3,y4⟩:=gq (r:=bh) (bytes:=24) GN o19 hz (λb hb ho=>by have:=(hD b (o7.lt ho).1).2;omega) U U;have z25:=y3.next;have nO:¬ah A7 h5.next:=λho=>by have:=(hD _ (o7.lt ho).1).1;omega
    have b25:=y3.bk U nO (k24.bk U a19);obtain⟨h26,s26,b26,z26,q26⟩:=aD (v:=ω A18 (k+1) K18) b25 (o:=4) (by simp) rfl;have hse:N.start p (k+1) c=bR (N.lsz p) (k+1):=by
     rw[<-hn12];unfold ab.start;rw[Nat.add_sub_cancel];rfl
    refine⟨A18,k+1,K18,h25,y1,h26,s26,_,wk,n6 - (k+1),U,k+1,λz=>(D z\/(z=h17.next\/z=h19.next)\/z=h24.next)/\z<h25.next,A18,K18,rfl,U,rfl,by rw[<-hse];exact b26,?_,λz hz=>?_,?_⟩
    .rw[List.range_succ,List.map_append,List.map_singleton,hys];refine(y2.mono (D':=λz=>(D z\/(z=h17.next\/z=h19.next)\/z=h24.next)/\z<h25.next) λz hz hlt=>⟨hz,hlt⟩).keep (λz hz _=>q26 z ?_) U;rcases hz.1 with h9 | h9 | h9
     .have:=(hD z h9).1;omega
     .omega
     .omega
    .rcases hz.1 with h9 | h9 | h9
     .have:=hD z h9;omega
     .omega
     .omega
    .exact((m17.then m19).nw k24).trans y3 (λz hz hlt=>by have:=(hD z (o7.lt hz).1).1;omega) |>.then ⟨U,λz _ hn=>q26 z hn⟩
  .obtain rfl:k=n6:=U;subst hn6;have k117:Nw h1 h17:=((Mt.of k6).then m617).is_nw (k14.trans k5) λz hz=>U;have kk:=k1.trans k117;have z117:=k117.next;refine hK h5.next h17 ⟨⟨U,U⟩,⟨_,_,_,aa b17 rfl,?_⟩,⟨_,_,_,aa b17 rfl,?_⟩,⟨_,_,_,aa b17 rfl,?_⟩,⟨_,_,_,aa b17 rfl,s617.mono λz hz _=>U⟩,⟨_,_,_,aa b17 rfl,o7.sa.mono λz hz _=>by have:=(hD z hz).1;omega⟩,aa b17 rfl,hp,hfew,G.ok,⟨hnv,hna⟩⟩ kk
   .exact((((s4.mono λz hz hlt=>(⟨hz,hlt⟩:h3.next<=z/\z<h4.next)).nw (k5.trans k6)).off m617 λz hz e=>U)).mono λz hz _=>U
   .exact(o1.sa.off m17 λz hz e=>by have:=lo1 z hz;omega).mono λz hz _=>by have:=lo1 z hz;omega
   .exact(o2.sa.off m17 λz hz e=>by have:=lo2 z hz;omega).mono λz hz _=>by have:=lo2 z hz;omega
end
end Eva
end
section
open Go Go.RowKit
theorem uW (f g:Nat->Nat):∀n,bR (λi=>f i+g i) n=bR f n+bR g n
 | 0=>rfl
 | n+1=>by
  show bR (λi=>f i+g i) n+(f n+g n)=bR f n+f n+(bR g n+g n);rw[uW f g n];omega
theorem rq {f:Nat->Bool}{c0:Nat}(h:∀c,f c=true->c=c0):∀n,bR (λc=>if f c then 1 else 0) n<=if c0<n then 1 else 0
 | 0=>by simp[bR]
 | n+1=>by
  have ih:=rq h n;show bR (λc=>if f c then 1 else 0) n+(if f n then 1 else 0)<=_;by_cases e:f n=true
  .have:=h n e;subst this;rw[if_neg (Nat.lt_irrefl _)]at ih;simp[e];omega
  .simp[e];by_cases h1:c0<n
   .rw[if_pos h1]at ih;rw[if_pos U];simpa using ih
   .rw[if_neg h1]at ih;have:bR (λc=>if f c=true then 1 else 0) n<=0:=ih
    split <;>omega
theorem rr {f:Nat->Nat->Bool}{q:Nat->Nat}(h:∀c a,f c a=true->c=q a) (m:Nat):∀n,bR (λc=>(bV (f c) n).length) m<=n
 | 0=>by
  have:∀m,bR (λc=>(bV (f c) 0).length) m=0:=λm=>by
   induction m with
   | zero=>rfl
   | succ m ih=>show bR _ m+(bV (f m) 0).length=0;rw[ih];rfl
  rw[this];exact Nat.le_refl _
 | n+1=>by
  have e:(λc=>(bV (f c) (n+1)).length)=λc=>(bV (f c) n).length+if f c n then 1 else 0:=by
   funext c
   rw[gS]
   split <;>simp
  rw[e,uW];have h1:=rr h m n;have h2:=rq (f:=λc=>f c n) (λc=>h c n) m;have h3:(if q n<m then 1 else 0)<=1:=by split <;>omega
  omega
theorem lg {N:ab}{p:List (List Int)}(hna:N.na<=300) (hp:p.length<=6):N.size p<1000000:=by
 have h1:∀j,N.lsz p j<=90000:=λj=>by
  unfold ab.lsz;have h2:∀m,bR (N.sz p (j+1)) m<=bR (λc=>(N.ins p (j+1) c).length) m*300:=λm=>by
   induction m with
   | zero=>simp[bR]
   | succ m ih=>
    show bR (N.sz p (j+1)) m+N.sz p (j+1) m<=(bR _ m+(N.ins p (j+1) m).length)*300;rw[Nat.add_mul];have:N.sz p (j+1) m<=(N.ins p (j+1) m).length*300:=Nat.mul_le_mul_left _ (Nat.le_trans (aE _ _) hna);omega
  have h3:bR (λc=>(N.ins p (j+1) c).length) (aq p (j+1))<=N.na:=rr (f:=λc a=>N.insB p (j+1) c a) (q:=λa=>ap p (j+1) (N.to a)) (λc a h=>by simp[ab.insB]at h;exact h.1.symm) _ _;have h5:=h2 (aq p (j+1));have h6:bR (λc=>(N.ins p (j+1) c).length) (aq p (j+1))*300<=300*300:=Nat.mul_le_mul_right _ (Nat.le_trans h3 hna);exact Nat.le_trans h5 h6
 have h4:=Dq h1 p.length;unfold ab.size;have:p.length*(90000)<=6*(90000):=Nat.mul_le_mul_right _ hp;omega
namespace Eva
section
variable {h h':AH}{F G:Nat->Prop}{Q:Value->AH->Prop}{A Av Aa At Ap:Option Addr}{n K nv Kv na Ka nt Kt np Kp:Nat}{N:ab}{p:List (List Int)}
theorem Cj (Z:cq h F Av nv Kv Aa na Ka At nt Kt N) (hf:py N) (ok:N.Ok) (hK:∀g h' Fa Ft F,qq h' Fa Ft F g N->(∀z,Fa z\/Ft z\/F z->h.next<=z)->Nw h h'->Q (μ (η ⟨g,0,ν⟩)) h') :
  WC Tryz.prog 68 [.agg #[ω Av nv Kv,ω Aa na Ka,ω At nt Kt]] h Q:=by
 have lv:=Z.vs.len;have la:=Z.xa.len;have lt:=Z.ts.len;obtain⟨f1,f2,f3,f4⟩:=hf;refine vq λh1 e1=>?_;obtain⟨k1,g1,z1⟩:=aj e1;have Z1:=Z.nw k1;refine⟨_,_,_,_,_,_,_,_,_,aK (aa g1 rfl) (aa g1 rfl) (aa g1 rfl),HH Z1.vs Z1.xa Z1.ts U U U (λt ht=>by have:=f4 t ht;omega) λA1 K1 A2 K2 A3 K3 h2 s1 s2 s3 k2=>⟨_,_,_,_,_,_,_,_,_,rfl,?_⟩⟩;have z2:=k2.next;exact zA s1 s2 s3 ok U λg h3 Fa Ft F' G lo k3=>⟨_,ν,rfl,λ_=>hK g h3 Fa Ft F' G (λz hz=>by have:=lo z hz;omega) ((k1.trans k2).trans k3),λt u h=>by cases h⟩
theorem DT (Z:cq h F Av nv Kv Aa na Ka At nt Kt N) (hf:py N) (ok:N.Ok) (hs:Sz (Rc.sliceZ cI) G h Ap np Kp p) (hp:aB N.nv p) (hK:∀o h',eL h' (λz=>h.next<=z) o N p->Nw h h'->Q (μ (η ⟨o,0,ν⟩)) h') :
  WC Tryz.prog 69 [.agg #[ω Av nv Kv,ω Aa na Ka,ω At nt Kt],.agg #[ω Ap np Kp]] h Q:=by
 have ln:=hs.len;have h6:=hp.few;have hnv:=hp.nv_;have hsz:=lg (N:=N) (p:=p) hf.2.1 h6;refine tn λh1 e1 h2 e2=>?_;obtain⟨k1,g1,z1⟩:=aj e1;obtain⟨k2,g2,z2⟩:=aj e2;have k12:=k1.trans k2;have g12:=k2.bk U g1;refine⟨_,_,_,_,_,_,_,_,_,aK (aa g12 rfl) (aa g12 rfl) (aa g12 rfl),Cj (Z.nw k12) hf ok λg h3 Fa Ft F' X3 lo k3=>⟨_,rfl,(λh=>by cases h),λ_=>⟨g,0,rfl,_,_,_,eo (aa (k3.bk U g2) rfl),?_⟩⟩⟩;have G3:=X3.gr;have k13:=k12.trans k3;refine GB (hs.nw k13) U (λx hx=>by rw[hp.rows x hx];omega) λA' K' h4 s4 k4=>⟨_,_,_,rfl,?_⟩;have z4:=(k13.trans k4).next;refine Ci (G3.nw k4) hp s4 U λo h5 O k5=>⟨_,ν,rfl,λ_=>hK o h5 ?_ ((k13.trans k4).trans k5),λt u h=>by cases h⟩;obtain⟨⟨w1,w2⟩,⟨a1,a2,a3,a4,a5⟩,⟨b1,b2,b3,b4,b5⟩,⟨c1,c2,c3,c4,c5⟩,⟨d1,d2,d3,d4,d5⟩,⟨e1,e2,e3,e4,e5⟩,q1,q2,q3,q4,q5⟩:=O;exact⟨⟨U,w2⟩,⟨a1,a2,a3,a4,a5.mono λz hz _=>U⟩,⟨b1,b2,b3,b4,b5.mono λz hz _=>U⟩,⟨c1,c2,c3,c4,c5.mono λz hz _=>U⟩,⟨d1,d2,d3,d4,d5.mono λz hz _=>U⟩,⟨e1,e2,e3,e4,e5.mono λz hz _=>U⟩,q1,q2,q3,q4,q5⟩
theorem yi {a b c:Value}(ha:ku 5 a) (hb:ku 5 b) (hc:ku 5 c):aS (.agg #[a,b,c]):=by
 intro v hv;have hv':v=a\/v=b\/v=c:=by simpa using hv
 rcases hv' with rfl | rfl | rfl
 .exact ha
 .exact hb
 .exact hc
theorem Sz.ok5 {α:Type}{r:Rc α}{F:Nat->Prop}{xs:List α}(hs:Sz r F h A n K xs) (hn:0<n):ku 5 (ω A n K):=by
 obtain⟨b,o,rfl,-⟩:=hs.at_ hn;rfl
theorem FD {a:Value}(ha:ku 5 a):aS (.agg #[a]):=by
 intro v hv;have hv':v=a:=by simpa using hv
 subst hv';exact ha
structure lh (h0 h:AH) (g o C:Nat) (costs:List Int) (N:ab) (p:List (List Int)):Prop where
 gr:∃Fa Ft F,qq h Fa Ft F g N/\(∀z,Fa z\/Ft z\/F z->h0.next<=z)/\∃Fo,eL h Fo o N p/\(∀z,Fo z->h0.next<=z/\¬Fa z/\¬Ft z)/\¬Fa C/\¬Ft C
 cs:Bk h C (costs.map (Value.int .i64)) 2
 cp:h0.next<=C/\C<h.next
 ok:bG N p costs
 nn:∀x∈costs,0<=x
theorem eL.mono {o:Nat}{Fo Fo':Nat->Prop}(O:eL h Fo o N p) (hF:∀z,Fo z->z<h.next->Fo' z):eL h Fo' o N p:=by
 obtain⟨⟨w1,w2⟩,⟨a1,a2,a3,a4,a5⟩,⟨b1,b2,b3,b4,b5⟩,⟨c1,c2,c3,c4,c5⟩,⟨d1,d2,d3,d4,d5⟩,⟨e1,e2,e3,e4,e5⟩,q1,q2,q3,q4,q5⟩:=O;exact⟨⟨hF _ w1 w2,w2⟩,⟨a1,a2,a3,a4,a5.mono hF⟩,⟨b1,b2,b3,b4,b5.mono hF⟩,⟨c1,c2,c3,c4,c5.mono hF⟩,⟨d1,d2,d3,d4,d5.mono hF⟩,⟨e1,e2,e3,e4,e5.mono hF⟩,q1,q2,q3,q4,q5⟩
theorem qq.lt {g:Nat}{Fa Ft F:Nat->Prop}(X:qq h Fa Ft F g N):qq h (λz=>Fa z/\z<h.next) (λz=>Ft z/\z<h.next) (λz=>F z/\z<h.next) g N:=by
 obtain⟨o,⟨a1,a2,a3,a4,a5⟩,⟨b1,b2,b3,b4,b5⟩,⟨c1,c2,c3,c4,c5⟩,⟨d1,d2,d3,d4,d5⟩,⟨e1,e2,e3,e4,e5⟩,⟨f1,f2,f3,f4,f5⟩,ok,fw,dj⟩:=X;exact⟨⟨⟨o.1,o.2⟩,o.2⟩,⟨a1,a2,a3,a4,a5.mono λz hz hl=>⟨hz,hl⟩⟩,⟨b1,b2,b3,b4,b5.mono λz hz hl=>⟨hz,hl⟩⟩,⟨c1,c2,c3,c4,c5.mono λz hz hl=>⟨hz,hl⟩⟩,⟨d1,d2,d3,d4,d5.mono λz hz hl=>⟨hz,hl⟩⟩,⟨e1,e2,e3,e4,e5.mono λz hz hl=>⟨hz,hl⟩⟩,⟨f1,f2,f3,f4,f5.mono λz hz hl=>⟨hz,hl⟩⟩,ok,fw,λz=>⟨λhz=>⟨λh=>((dj z).1 hz.1).1 h.1,λh=>((dj z).1 hz.1).2 h.1⟩,λhz h=>(dj z).2 hz.1 h.1⟩⟩
theorem Ck (Z:cq h F Av nv Kv Aa na Ka At nt Kt N) (hf:py N) (ok:N.Ok) (hna:0<na) (hs:Sz (Rc.sliceZ cI) G h Ap np Kp p) (hp:aB N.nv p)
  (hK:∀g o C costs h',lh h h' g o C costs N p->Nw h h'->Q (.tuple #[μ (η ⟨g,0,ν⟩),μ (η ⟨o,0,ν⟩),ω (η ⟨C,0,ν⟩) (N.size p) (cx (N.size p)),.bool true]) h') :
  WC Tryz.prog 26 [.agg #[ω Av nv Kv,ω Aa na Ka,ω At nt Kt],.agg #[ω Ap np Kp]] h Q:=by
 have lv:=Z.vs.len;have la:=Z.xa.len;have lt:=Z.ts.len;have ln:=hs.len;have h1p:=hp.some_;have hto:=ab.to_lt (N:=N) ok (a:=0) (by show 0<N.xa.length;omega);have hnv:0<nv:=by have:=hto.1;unfold ab.nv at this;omega
 have hnt:0<nt:=by
  have hv:N.vs[0]? = η (N.vs[0]' U):=List.getElem?_eq_getElem _;have:=ok.verts_ _ (List.mem_of_getElem? hv);omega
 have hsz:=lg (N:=N) (p:=p) hf.2.1 hp.few;refine qr λh1 e1 h2 e2=>?_;obtain⟨k1,g1,z1⟩:=aj e1;obtain⟨k2,g2,z2⟩:=aj e2;have k12:=k1.trans k2;have g12:=k2.bk U g1;have bN:∀{h'},Nw h2 h'->au h' h.next 0 3=η [ω Av nv Kv,ω Aa na Ka,ω At nt Kt]:=λa=>aK (aa (a.bk U g12) rfl) (aa (a.bk U g12) rfl) (aa (a.bk U g12) rfl);have bP:∀{h'},Nw h2 h'->au h' h1.next 0 1=η [ω Ap np Kp]:=λa=>eo (aa (a.bk U g2) rfl);refine⟨_,_,_,_,_,_,_,_,_,bN (Nw.refl _),_,_,_,_,_,_,_,_,_,bN (Nw.refl _),_,_,_,bP (Nw.refl _),Cj (Z.nw k12) hf ok λg h3 Fa Ft F' X3 lo k3=>⟨_,rfl,bP k3,FD (hs.ok5 U),bN k3,yi (Z.vs.ok5 hnv) (Z.xa.ok5 hna) (Z.ts.ok5 hnt),?_⟩⟩;have k13:=k12.trans k3;refine DT (Z.nw k13) hf ok (hs.nw k13) hp λo h4 O k4=>⟨_,rfl,(λh=>by cases h),λ_=>⟨g,0,rfl,(λh=>by cases h),λ_=>⟨o,0,rfl,?_⟩⟩⟩;have z4:=(k13.trans k4).next;have z12:=k12.next;have z13:=k13.next;have X3':=X3.lt;have z34:=k4.next;refine HN (X3'.gr.nw k4) hf.2.1 O hsz λC costs h5 b5 c1 c2 hco hnn k5=>⟨_,_,_,rfl,hK g o C costs h5 ⟨⟨_,_,_,(X3'.nw k4).nw k5,λz hz=>?_,λz=>h3.next<=z,O.nw k5,λz hz=>⟨U,λh=>by have:=h.2;omega,λh=>by have:=h.2;omega⟩,λh=>by have:=h.2;omega,λh=>by have:=h.2;omega⟩,b5,⟨U,c2⟩,hco,hnn⟩ ((k13.trans k4).trans k5)⟩;have:=lo z (hz.elim (λh=>.inl h.1) λh=>.inr (h.elim (λh=>.inl h.1) λh=>.inr h.1));omega
end
end Eva
end
section
open Go Go.RowKit
namespace Eva
def Rc.chg:Rc dV where
 size:=5
 rel:=λ_ _ cs x=>cs = [ξ ψ x.1,ξ ψ x.2.1,ξ ψ x.2.2.1,ξ ψ x.2.2.2.1,ξ ψ x.2.2.2.2]
 len:=λh=>by rw[h];rfl
 flat:=λh u hu=>by rw[h]at hu;simp at hu;rcases hu with rfl | rfl | rfl | rfl | rfl <;>rfl
 keep:=λ_ _ h=>h
 mono:=λ_ h=>h
abbrev dQ:Rc dV:=Rc.chg
theorem Cl:po dQ:=λh=>h
def dR (x:dV):List Value:=[ξ ψ x.1,ξ ψ x.2.1,ξ ψ x.2.2.1,ξ ψ x.2.2.2.1,ξ ψ x.2.2.2.2]
def pD (x:dV):Value:=.agg #[ξ ψ x.1,ξ ψ x.2.1,ξ ψ x.2.2.1,ξ ψ x.2.2.2.1,ξ ψ x.2.2.2.2]
theorem uX (x:dV):∀v∈dR x,flat v=true:=by simp[dR,flat]
section
variable {h h':AH}{F Fa:Nat->Prop}{Q:Value->AH->Prop}{A:Option Addr}{n K g:Nat}{N:ab}{xs:List dV}{ts:List ly}
theorem Sz.chg (hs:Sz dQ F h A n K xs){k:Nat}(hk:k<n):∃b o x,A=η ⟨b,o,ν⟩/\F b/\b<h.next/\xs[k]? = η x/\(∀j u,(dR x)[j]? = η u->ldC h b (o+k*5+j)=η u)/\au h b (o+k*5) 5=η (dR x):=by
 obtain⟨b,o,x,cs,hA,hF,hb,hx,hc,hr⟩:=hs.get hk;have hr':cs=dR x:=hr;subst hr';have hc':∀j u,(dR x)[j]? = η u->ldC h b (o+k*5+j)=η u:=λj u hj=>by
  have:=hc j u hj;simpa[Rc.chg,Nat.add_assoc]using this
 exact⟨b,o,x,hA,hF,hb,hx,hc',jY rfl (by decide) hc'⟩
theorem Cm (c:Int) (hK:Q (.bool (aR c)) h):WC Tryz.prog 222 [ξ ψ c] h Q:=by
 by_cases hc:aR c=true
 .exact iO hc (by rwa [hc]at hK)
 .have hf:aR c=false:=by simpa using hc
  rw[hf]at hK;unfold aR at hc;have hc':¬((0<=c/\c<=2147483648)\/c=1152921504606846976):=by simpa using hc
  exact jt ⟨λh1=>absurd h1 U,λh1=>⟨λh2=>⟨λh3=>absurd h3 U,λh3=>hK⟩,λh2=>hK⟩⟩
theorem DU (x:dV) (hs:Sa Rc.table F h A n K N.ts) (hK:∀h',Nw h h'->Q (.bool (decide (N.isTurn x))) h') :
  WC Tryz.prog 284 [ω A n K,pD x] h Q:=by
 obtain⟨kd,at_,ci,co,w⟩:=x;have hln:=hs.len;refine oX λh1 e1=>?_;obtain⟨k1,g1,z1⟩:=aj e1;have no:∀{h'},Nw h h'->¬N.isTurn (kd,at_,ci,co,w)->Q (.bool false) h':=λa hn=>by have:=hK _ a;rwa [decide_eq_false hn]at this
 refine⟨_,aa g1 rfl,λ(hb:at_<0)=>no k1 λ⟨q,_⟩=>by simp only at q;omega,λ(hb:¬at_<0)=>⟨_,aa g1 rfl,λ(hb2:(n:Int)<=at_)=>no k1 λ⟨q,_⟩=>by simp only at q;omega,λ(hb2:¬(n:Int)<=at_)=>⟨_,aa g1 rfl,?_⟩⟩⟩;obtain⟨i,rfl⟩:∃i:Nat,at_=i:=⟨at_.toNat,U⟩;have hi:i<n:=U;obtain⟨b,o,u,v,A',n',K',zs,hA,hF,hlt,hx,l0,l1,l2,hs'⟩:=hs.table hi;have ht:N.tb ((i:Int)).toNat=(u,v,zs):=by simp[ab.tb,hx]
 have iff:N.isTurn (kd,(i:Int),ci,co,w)↔(0<=ci/\ci<u)/\(0<=co/\co<v):=by
  unfold ab.isTurn;simp only[ht];constructor
  .rintro⟨_,q⟩;exact q
  .intro q;exact⟨U,q⟩
 refine⟨i,rfl,b,o,hA,hi,u,v,A',n',K',wE ((k1.ldC hlt _).trans l0) ((k1.ldC hlt _).trans l1) ((k1.ldC hlt _).trans l2),λh2 e2=>?_⟩;obtain⟨h3,s3,k3,g3,z3⟩:=aC (vs:=[ξ ψ u,ξ ψ v,ω A' n' K']) e2 rfl (eC rfl rfl rfl);have k13:=k1.trans k3;have g13:=k3.bk U g1;refine⟨h3,s3,_,aa g13 rfl,λc1=>⟨_,aa g13 rfl,_,aa g3 rfl,λc2=>⟨_,aa g13 rfl,λc3=>⟨_,aa g13 rfl,_,aa g3 rfl,λc4=>?_,λc4=>?_⟩,λc3=>?_⟩,λc2=>?_⟩,λc1=>?_⟩
 .have:=hK _ k13;rwa [decide_eq_true (iff.2 ⟨⟨c1,c2⟩,c3,c4⟩)]at this
 .exact no k13 λq=>c4 (iff.1 q).2.2
 .exact no k13 λq=>c3 (iff.1 q).2.1
 .exact no k13 λq=>c2 (iff.1 q).1.2
 .exact no k13 λq=>c1 (iff.1 q).1.1
theorem DV (G:eA h Fa F g N){F2:Nat->Prop}(x:dV) (hs:Sa Rc.table F2 h A n K N.ts) (hK:∀h',Nw h h'->Q (ξ ψ (N.wrong x)) h') :
  WC Tryz.prog 219 [μ (η ⟨g,0,ν⟩),ω A n K,pD x] h Q:=by
 obtain⟨kd,at_,ci,co,w⟩:=x;refine oW λh1 e1=>?_;obtain⟨k1,g1,z1⟩:=aj e1;have hlt1:h.next<h1.next:=U;have q:∀{h'}{v:Int},Nw h1 h'->N.wrong (kd,at_,ci,co,w)=v->Q (ξ ψ v) h':=λa hv=>by have:=hK _ (k1.trans a);rwa [hv]at this
 have b:∀{h'},Nw h1 h'->Bk h' h.next (dR (kd,at_,ci,co,w)) 175:=λa=>a.bk hlt1 g1;have wt:∀{h'},Nw h1 h'->(N.wrong (kd,at_,ci,co,w)=if aR w=true then 0 else 8)->LI h' h.next 4 λx20=>CB 222 [ξ ψ x20] h' λb2 h4=>BS b2 (Q (ξ ψ 0) h4) (Q (ξ ψ 8) h4):=fun {h'} a hw=>
  ⟨w,aa (b a) rfl,Cm w ⟨_,rfl,λhb=>q a (by rw[hw,if_pos hb]),λhb=>q a (by rw[hw,if_neg (by simp[hb])])⟩⟩
 have tl:∀{h'},Nw h1 h'->(kd=2->(¬N.isTurn (kd,at_,ci,co,w)->N.wrong (kd,at_,ci,co,w)=5)/\(N.isTurn (kd,at_,ci,co,w)->N.wrong (kd,at_,ci,co,w)=if aR w=true then 0 else 8))->(kd≠2->N.wrong (kd,at_,ci,co,w)=if aR w=true then 0 else 8)->
   LI h' h.next 0 λx14=>TS (x14=2) (∃x15 x16 x17 x18 x19,au h' h.next 0 5=η [ξ ψ x15,ξ ψ x16,ξ ψ x17,ξ ψ x18,ξ ψ x19]/\CB 284 [ω A n K,.agg #[ξ ψ x15,ξ ψ x16,ξ ψ x17,ξ ψ x18,ξ ψ x19]] h' λb1 h3=>BS b1 (LI h3 h.next 4 λx20=>CB 222 [ξ ψ x20] h3 λb2 h4=>BS b2 (Q (ξ ψ 0) h4) (Q (ξ ψ 8) h4)) (Q (ξ ψ 5) h3)) (LI h' h.next 4 λx21=>CB 222 [ξ ψ x21] h' λb3 h5=>BS b3 (Q (ξ ψ 0) h5) (Q (ξ ψ 8) h5)):=fun {h'} a h2 hn2=>
  ⟨kd,aa (b a) rfl,λc=>⟨kd,at_,ci,co,w,bX (o:=0) (n:=5) (b a) (by simp[dR]),DU (kd,at_,ci,co,w) (hs.nw (k1.trans a)) λh3 k3=>⟨_,rfl,λht=>wt (a.trans k3) ((h2 c).2 (of_decide_eq_true ht)),λht=>q (a.trans k3) ((h2 c).1 (of_decide_eq_false ht))⟩⟩,λc=>wt a (hn2 c)⟩
 have bs:¬(kd=1/\(ci≠0\/co≠0))->(kd=1\/kd=2)->LI h1 h.next 0 λx10=>TS (x10=1)
     (LI h1 h.next 1 λx11=>TS (x11<0) (Q (ξ ψ 5) h1)
      (LI h1 h.next 1 λx12=>CI 51 [μ (η ⟨g,0,ν⟩)] h1 λx13 h2=>ldC h2 h.next 1=η (ξ ψ x12)/\TS (x13<=x12) (Q (ξ ψ 5) h2)
       (LI h2 h.next 0 λx14=>TS (x14=2) (∃x15 x16 x17 x18 x19,au h2 h.next 0 5=η [ξ ψ x15,ξ ψ x16,ξ ψ x17,ξ ψ x18,ξ ψ x19]/\CB 284 [ω A n K,.agg #[ξ ψ x15,ξ ψ x16,ξ ψ x17,ξ ψ x18,ξ ψ x19]] h2 λb1 h3=>BS b1 (LI h3 h.next 4 λx20=>CB 222 [ξ ψ x20] h3 λb2 h4=>BS b2 (Q (ξ ψ 0) h4) (Q (ξ ψ 8) h4)) (Q (ξ ψ 5) h3)) (LI h2 h.next 4 λx21=>CB 222 [ξ ψ x21] h2 λb3 h5=>BS b3 (Q (ξ ψ 0) h5) (Q (ξ ψ 8) h5)))))
     (LI h1 h.next 0 λx14=>TS (x14=2) (∃x15 x16 x17 x18 x19,au h1 h.next 0 5=η [ξ ψ x15,ξ ψ x16,ξ ψ x17,ξ ψ x18,ξ ψ x19]/\CB 284 [ω A n K,.agg #[ξ ψ x15,ξ ψ x16,ξ ψ x17,ξ ψ x18,ξ ψ x19]] h1 λb1 h3=>BS b1 (LI h3 h.next 4 λx20=>CB 222 [ξ ψ x20] h3 λb2 h4=>BS b2 (Q (ξ ψ 0) h4) (Q (ξ ψ 8) h4)) (Q (ξ ψ 5) h3)) (LI h1 h.next 4 λx21=>CB 222 [ξ ψ x21] h1 λb3 h5=>BS b3 (Q (ξ ψ 0) h5) (Q (ξ ψ 8) h5))):=λhz hk=>by
  refine⟨kd,aa g1 rfl,λc=>⟨at_,aa g1 rfl,λc2=>q (Nw.refl _) ?_,λc2=>⟨at_,aa g1 rfl,mB (G.nw k1) ⟨_,rfl,aa g1 rfl,λc3=>q (Nw.refl _) ?_,λc3=>tl (Nw.refl _) (λh2=>absurd h2 U) λ_=>?_⟩⟩⟩,λc=>tl (Nw.refl _) (λh2=>⟨λht=>?_,λht=>?_⟩) λh2=>absurd hk U⟩
  .subst c;simp at hz;simp[ab.wrong,hz,c2]
  .subst c;simp at hz;simp[ab.wrong,hz,c3]
  .unfold ab.wrong;dsimp only;rw[if_neg U,if_neg hz,if_neg U,if_neg (by rintro⟨h,-⟩;omega)]
  .subst h2;simp[ab.wrong,ht]
  .subst h2;simp[ab.wrong,ht]
 have one:∀v,N.wrong (kd,at_,ci,co,w)=v->v=1->Q (ξ ψ 1) h1:=λv hv e=>q (Nw.refl _) (by rw[hv,e]);refine⟨kd,aa g1 rfl,λc=>⟨kd,aa g1 rfl,λ_=>⟨ci,aa g1 rfl,λc2=>⟨co,aa g1 rfl,λc3=>bs (λhh=>U) (.inl c),λc3=>q (Nw.refl _) (by simp[ab.wrong,c,c2,c3])⟩,λc2=>q (Nw.refl _) (by simp[ab.wrong,c,c2])⟩,λc1=>absurd c c1⟩,
  λc=>⟨kd,aa g1 rfl,λc2=>⟨kd,aa g1 rfl,λc1=>absurd c1 c,λ_=>bs (λhh=>c hh.1) (.inr c2)⟩,λc2=>q (Nw.refl _) (by simp[ab.wrong,c,c2])⟩⟩
end
end Eva
end
section
open Go
namespace Eva
structure Ey (P:Program) (kt:TypeId) (f0 f1 f2 f3 f4:Field) (et e6:TypeId):Prop where
 u:P.underlying kt=η (.struct #[f0,f1,f2,f3,f4])
 st:P.stoodInHeld kt=false
 nm:f0.name≠ "_"/\f1.name≠ "_"/\f2.name≠ "_"/\f3.name≠ "_"/\f4.name≠ "_"
 ty:f0.type=et/\f1.type=et/\f2.type=et/\f3.type=et/\f4.type=e6
 off:f0.offset=0/\f1.offset=1/\f2.offset=2/\f3.offset=3/\f4.offset=4
theorem tc {P:Program}:ay P program=η P:=rfl
set_option maxHeartbeats 1000000
theorem DW {P:Program}{kt et e6:TypeId}{f0 f1 f2 f3 f4:Field}{d d6:IntKind}{i i6:TypeInfo}(H:Ey P kt f0 f1 f2 f3 f4 et e6) (he:P.underlying et=η (.int d)) (hi:P.info? et=η i) (he6:P.underlying e6=η (.int d6)) (hi6:P.info? e6=η i6):ld P kt pD where
 pl:=λa=>by rfl
 eq:=λa b=>by
  obtain⟨a1,a2,a3,a4,a5⟩:=a;obtain⟨b1,b2,b3,b4,b5⟩:=b;obtain⟨hu,hst,⟨n0,n1,n2,n3,n4⟩,⟨t0,t1,t2,t3,t4⟩,⟨o0,o1,o2,o3,o4⟩⟩:=H;show ay P (Op.equalIn (9999+1) kt (.agg #[ξ ψ a1,ξ ψ a2,ξ ψ a3,ξ ψ a4,ξ ψ a5]) (.agg #[ξ ψ b1,ξ ψ b2,ξ ψ b3,ξ ψ b4,ξ ψ b5]))=_;unfold Op.equalIn;rw[aA,cG hu];simp only[Option.bind_some];rw[aA,tc];simp only[Option.bind_some,hst,Bool.false_eq_true,if_false];have e0:ay P (part et #[Value.int .i64 a1,ξ ψ a2,ξ ψ a3,ξ ψ a4,ξ ψ a5] 0)=η (ξ ψ a1):=aI he hi _ _ rfl;have e1:ay P (part et #[Value.int .i64 a1,ξ ψ a2,ξ ψ a3,ξ ψ a4,ξ ψ a5] 1)=η (ξ ψ a2):=aI he hi _ _ rfl;have e2:ay P (part et #[Value.int .i64 a1,ξ ψ a2,ξ ψ a3,ξ ψ a4,ξ ψ a5] 2)=η (ξ ψ a3):=aI he hi _ _ rfl;have e3:ay P (part et #[Value.int .i64 a1,ξ ψ a2,ξ ψ a3,ξ ψ a4,ξ ψ a5] 3)=η (ξ ψ a4):=aI he hi _ _ rfl;have e4:ay P (part e6 #[Value.int .i64 a1,ξ ψ a2,ξ ψ a3,ξ ψ a4,ξ ψ a5] 4)=η (ξ ψ a5):=aI he6 hi6 _ _ rfl;have g0:ay P (part et #[Value.int .i64 b1,ξ ψ b2,ξ ψ b3,ξ ψ b4,ξ ψ b5] 0)=η (ξ ψ b1):=aI he hi _ _ rfl;have g1:ay P (part et #[Value.int .i64 b1,ξ ψ b2,ξ ψ b3,ξ ψ b4,ξ ψ b5] 1)=η (ξ ψ b2):=aI he hi _ _ rfl;have g2:ay P (part et #[Value.int .i64 b1,ξ ψ b2,ξ ψ b3,ξ ψ b4,ξ ψ b5] 2)=η (ξ ψ b3):=aI he hi _ _ rfl;have g3:ay P (part et #[Value.int .i64 b1,ξ ψ b2,ξ ψ b3,ξ ψ b4,ξ ψ b5] 3)=η (ξ ψ b4):=aI he hi _ _ rfl;have g4:ay P (part e6 #[Value.int .i64 b1,ξ ψ b2,ξ ψ b3,ξ ψ b4,ξ ψ b5] 4)=η (ξ ψ b5):=aI he6 hi6 _ _ rfl;have k:∀x y:Int,ay P (Op.equalIn 9999 et (ξ ψ x) (ξ ψ y))=η (x == y):=λx y=>GJ he 9998 x y;have k6:∀x y:Int,ay P (Op.equalIn 9999 e6 (ξ ψ x) (ξ ψ y))=η (x == y):=λx y=>GJ he6 9998 x y;rw[<-Array.forIn_toList];simp only[List.forIn_cons,List.forIn_nil];by_cases h1:a1=b1
  case neg=>simp[aA,bZ,bj,n0,t0,o0,e0,g0,k,h1]
  subst h1;by_cases h2:a2=b2
  case neg=>simp[aA,bZ,bj,n0,t0,o0,e0,g0,n1,t1,o1,e1,g1,k,h2]
  subst h2;by_cases h3:a3=b3
  case neg=>simp[aA,bZ,bj,n0,t0,o0,e0,g0,n1,t1,o1,e1,g1,n2,t2,o2,e2,g2,k,h3]
  subst h3;by_cases h4:a4=b4
  case neg=>simp[aA,bZ,bj,n0,t0,o0,e0,g0,n1,t1,o1,e1,g1,n2,t2,o2,e2,g2,n3,t3,o3,e3,g3,k,h4]
  subst h4;by_cases h5:a5=b5
  case neg=>simp[aA,bZ,bj,n0,t0,o0,e0,g0,n1,t1,o1,e1,g1,n2,t2,o2,e2,g2,n3,t3,o3,e3,g3,n4,t4,o4,e4,g4,k,k6,h5]
  subst h5;simp[aA,bZ,bj,n0,t0,o0,e0,g0,n1,t1,o1,e1,g1,n2,t2,o2,e2,g2,n3,t3,o3,e3,g3,n4,t4,o4,e4,g4,k,k6]
 chk:=λe a=>by
  obtain⟨hu,hst,⟨n0,n1,n2,n3,n4⟩,⟨t0,t1,t2,t3,t4⟩,⟨o0,o1,o2,o3,o4⟩⟩:=H;show(match ay P (Instr.checkKey e (9999+1) kt (.agg #[ξ ψ a.1,ξ ψ a.2.1,ξ ψ a.2.2.1,ξ ψ a.2.2.2.1,ξ ψ a.2.2.2.2])) with | some _=>true | none=>false)=true;have e0:ay P (part et #[Value.int .i64 a.1,ξ ψ a.2.1,ξ ψ a.2.2.1,ξ ψ a.2.2.2.1,ξ ψ a.2.2.2.2] 0)=η (ξ ψ a.1):=aI he hi _ _ rfl;have e1:ay P (part et #[Value.int .i64 a.1,ξ ψ a.2.1,ξ ψ a.2.2.1,ξ ψ a.2.2.2.1,ξ ψ a.2.2.2.2] 1)=η (ξ ψ a.2.1):=aI he hi _ _ rfl;have e2:ay P (part et #[Value.int .i64 a.1,ξ ψ a.2.1,ξ ψ a.2.2.1,ξ ψ a.2.2.2.1,ξ ψ a.2.2.2.2] 2)=η (ξ ψ a.2.2.1):=aI he hi _ _ rfl;have e3:ay P (part et #[Value.int .i64 a.1,ξ ψ a.2.1,ξ ψ a.2.2.1,ξ ψ a.2.2.2.1,ξ ψ a.2.2.2.2] 3)=η (ξ ψ a.2.2.2.1):=aI he hi _ _ rfl;have e4:ay P (part e6 #[Value.int .i64 a.1,ξ ψ a.2.1,ξ ψ a.2.2.1,ξ ψ a.2.2.2.1,ξ ψ a.2.2.2.2] 4)=η (ξ ψ a.2.2.2.2):=aI he6 hi6 _ _ rfl;have k:∀x:Int,ay P (Instr.checkKey e 9999 et (ξ ψ x))=η ():=λx=>DL he e 9998 x;have k6:∀x:Int,ay P (Instr.checkKey e 9999 e6 (ξ ψ x))=η ():=λx=>DL he6 e 9998 x;unfold Instr.checkKey;rw[aA,cG hu];simp only[Option.bind_some];rw[<-Array.forIn_toList];simp only[List.forIn_cons,List.forIn_nil];simp[aA,bZ,bj,n0,t0,o0,n1,t1,o1,n2,t2,o2,n3,t3,o3,n4,t4,o4,e0,e1,e2,e3,e4,k,k6]
 bits:=λa=>by
  show Instr.sameBits 10000 (pD a) (pD a)=true;unfold Instr.sameBits pD;simp[Instr.sameBits]
def lk (P:Program) (t:TypeId):List Field:=
 match P.underlying t with
 | some (.struct fs)=>fs.toList
 | _=>[]
theorem Cn {P:Program}{t:TypeId}{l:List Field}(h:lk P t=l) (hn:l≠[]):P.underlying t=η (.struct l.toArray):=by
 unfold lk at h
 split at h
 .rename_i fs hu;rw[hu,<-h]
 .exact absurd h.symm hn
theorem DX {P:Program}{t et e6:TypeId}(h:(lk P t).map (λf=>(f.name != "_",f.type,f.offset)) = [(true,et,0),(true,et,1),(true,et,2),(true,et,3),(true,e6,4)]) (hst:P.stoodInHeld t=false):∃f0 f1 f2 f3 f4,Ey P t f0 f1 f2 f3 f4 et e6:=by
 obtain⟨l,hl⟩:∃l,lk P t=l:=⟨_,rfl⟩;rw[hl]at h;have hlen:l.length=5:=by have:=congrArg List.length h;simpa using this
 obtain⟨f0,f1,f2,f3,f4,rfl⟩:∃f0 f1 f2 f3 f4,l = [f0,f1,f2,f3,f4]:=by
  rcases l with _ | ⟨f0,_ | ⟨f1,_ | ⟨f2,_ | ⟨f3,_ | ⟨f4,_ | ⟨f5,l⟩⟩⟩⟩⟩⟩ <;>first | (simp at hlen;done) | exact⟨_,_,_,_,_,rfl⟩
 simp only[List.map_cons,List.map_nil,List.cons.injEq,Prod.mk.injEq,bne_iff_ne,ne_eq,and_true]at h;obtain⟨⟨n0,t0,o0⟩,⟨n1,t1,o1⟩,⟨n2,t2,o2⟩,⟨n3,t3,o3⟩,n4,t4,o4⟩:=h;exact⟨f0,f1,f2,f3,f4,Cn hl (by simp),hst,⟨n0,n1,n2,n3,n4⟩,⟨t0,t1,t2,t3,t4⟩,o0,o1,o2,o3,o4⟩
theorem GP:ld Tryz.prog 175 pD:=by
 obtain⟨f0,f1,f2,f3,f4,H⟩:=DX (P:=Tryz.prog) (t:=175) (et:=3) (e6:=2) (by kernel_rfl) (by kernel_rfl);obtain⟨i,hi,-⟩:=bo dC;obtain⟨i6,hi6,-⟩:=zG;exact DW (d:=.i64) (d6:=.i64) H Tryz.underlying3 hi Tryz.underlying2 hi6
end Eva
end
section
open Go Go.RowKit
def cU (x:dV):dV:=(x.1,x.2.1,x.2.2.1,x.2.2.2.1,0)
structure bI (N:ab) (l:List dV):Prop where
 len:l.length<=256
 ok:∀x∈l,el N x
 one:∀(j i:Nat) (x y:dV),j<i->l[j]? = η x->l[i]? = η y->cU x≠cU y
namespace Eva
section
variable {h h':AH}{F Fa:Nat->Prop}{Q:Value->AH->Prop}{A:Option Addr}{n K g:Nat}{N:ab}{xs:List dV}
theorem GQ (G:eA h Fa F g N) (hK:∀A1 n1 K1 A2 n2 K2 A3 n3 K3 h',Sa aN (λz=>h.next<=z) h' A1 n1 K1 N.vs->Sa aN (λz=>h.next<=z) h' A2 n2 K2 N.xa->Sa ep (λz=>h.next<=z) h' A3 n3 K3 N.ts->Nw h h'->Q (.agg #[ω A1 n1 K1,ω A2 n2 K2,ω A3 n3 K3]) h') :
  WC Tryz.prog 145 [μ (η ⟨g,0,ν⟩)] h Q:=by
 refine kD λh1 e1=>?_;obtain⟨k1,g1,z1⟩:=aj e1;obtain⟨⟨hg1,hg2⟩,⟨a1,a2,a3,a4,a5⟩,⟨b1,b2,b3,b4,b5⟩,⟨c1,c2,c3,c4,c5⟩,-,-,-,ok,fw⟩:=G;refine⟨g,0,rfl,_,_,_,_,_,_,_,_,_,aK ((k1.ldC hg2 _).trans a4) ((k1.ldC hg2 _).trans b4) ((k1.ldC hg2 _).trans c4),?_⟩;refine ya (a5.nw k1) (b5.nw k1) (c5.nw k1) ok λD3 A1 K1 A2 K2 A3 K3 h2 s1 s2 s3 lo lo3 k2=>⟨_,_,_,_,_,_,_,_,_,rfl,?_⟩;obtain⟨h3,t3,g3,z3,o3⟩:=bL (vs:=[ω A1 a2 K1,ω A2 b2 K2,ω A3 c2 K3]) (k2.bk U g1) rfl (eC rfl rfl rfl);have m3:Mt (λz=>z=h.next) h2 h3:=⟨U,λz _ hn=>o3 z hn⟩;have z2:=k2.next;refine⟨h3,t3,_,_,_,_,_,_,_,_,_,aK (aa g3 rfl) (aa g3 rfl) (aa g3 rfl),hK _ _ _ _ _ _ _ _ _ h3 ((s1.off m3 λz hz e=>by have:=hz.1;omega).mono λz hz _=>by have:=hz.1;omega) ((s2.sa.off m3 λz hz e=>by have:=(lo z hz).1;omega).mono λz hz _=>by have:=(lo z hz).1;omega) ((s3.sa.off m3 λz hz e=>by have:=lo3 z hz;omega).mono λz hz _=>by have:=lo3 z hz;omega) (m3.is_nw (k1.trans k2) λz hz=>U)⟩
def iV (j:Nat):Value:=ξ ψ (j:Int)
theorem yj (G:eA h Fa F g N){Fl:Nat->Prop}(hs:Sz dQ Fl h A n K xs) (hK1:bI N xs->∀h',Nw h h'->Q .nilIface h') (hK2:¬bI N xs->∀t u h',Nw h h'->Q (.iface t u) h') :
  WC Tryz.prog 144 [μ (η ⟨g,0,ν⟩),ω A n K] h Q:=by
 have hl:=hs.len;refine qd ⟨λhbig h1 e1=>hK2 (λB=>by have:=B.len;omega) _ _ _ (aj e1).1,λhle=>⟨λh0=>?_,λhn0=>?_⟩⟩
 .obtain rfl:xs = []:=by
   apply List.eq_nil_of_length_eq_zero;omega
  exact hK1 ⟨by simp,by simp,λj i x y _ hx=>by simp at hx⟩ h (Nw.refl _)
 refine GQ G λA1 n1 K1 A2 n2 K2 A3 n3 K3 h2 s1 s2 s3 k2=>⟨_,_,_,_,_,_,_,_,_,rfl,λh3 e3=>?_⟩;obtain⟨k3,g3,z3⟩:=aj e3;have k13:=k2.trans k3;refine⟨λm x h4=>∃(i:Nat) (f:dV->Option Nat),x=i/\i<=n/\m=n - i/\dP pD h4 h2.next (λy=>(f y).map iV)/\(∀y,(f y).isSome=true↔∃j x,j<i/\xs[j]? = η x/\cU x=y)/\(∀j x,j<i->xs[j]? = η x->el N x)/\(∀j i' x y,j<i'->i' < i->xs[j]? = η x->xs[i']? = η y->cU x≠cU y)/\Mt (λz=>z=h2.next) h3 h4,n,
  ⟨0,λ_=>ν,rfl,Nat.zero_le _,rfl,dP.new g3,λy=>⟨λh=>(by cases h),λ⟨j,x,hj,_⟩=>absurd hj U⟩,λj x hj=>absurd hj U,λj i' x y _ hj=>absurd hj U,Mt.refl _ _⟩,?_⟩
 rintro m x h4 ⟨i,f,rfl,hi,rfl,M4,hf,hok,hone,m4⟩;have z4:=m4.next;have k14:Nw h h4:=m4.is_nw k13 λz hz=>by have:=k2.next;omega
 refine⟨λhlt=>?_,λhge=>?_⟩
 .obtain⟨b',o',x,hA',-,hlb,hx,hc,hn5⟩:=(hs.nw k14).chg (k:=i) U;refine⟨i,rfl,b',o',hA',U,_,_,_,_,_,hn5,λh5 e5=>?_⟩;obtain⟨h6,s6,k6,g6,z6⟩:=aC (vs:=dR x) e5 rfl (uX x);have t6:Sa ep (λz=>h.next<=z/\z<h2.next) h6 A3 n3 K3 N.ts:=(((s3.mono λz hz hl=>(⟨hz,hl⟩:h.next<=z/\z<h2.next)).nw k3).off m4 λz hz e=>U).nw k6;refine⟨h6,s6,_,_,_,_,_,bX (o:=0) (n:=5) g6 (by simp[dR]),DV (G.nw (k14.trans k6)) x t6 λh7 k7=>⟨_,rfl,_,_,_,_,_,bX (o:=0) (n:=5) (k7.bk U g6) (by simp[dR]),λh8 e8=>?_⟩⟩;obtain⟨h9,s9,k9,g9,z9⟩:=aC (vs:=dR x) e8 rfl (uX x);obtain⟨h10,s10,g10,z10,o10⟩:=aD (v:=ξ ψ 0) (o:=4) g9 (by simp[dR]) rfl;have g10':Bk h10 h7.next (dR (cU x)) 175:=g10;have z7:=k7.next;have m10:Mt (λz=>z=h7.next) h9 h10:=⟨U,λz _ hn=>o10 z hn⟩;have m410:Mt (λz=>z=h7.next) h4 h10:=((((Mt.of k6).nw k7).nw k9).then m10);have k410:Nw h4 h10:=m410.is_nw (Nw.refl _) λz hz=>U;have M10:dP pD h10 h2.next (λy=>(f y).map iV):=M4.keep (m410.get _ U U);have bad:¬bI N xs->∀t u h',Nw h10 h'->Q (.iface t u) h':=λhb t u h' a=>hK2 hb t u h' ((k14.trans k410).trans a);have n10:au h10 h7.next 0 5=η (dR (cU x)):=bX (o:=0) (n:=5) g10' (by simp[dR]);have put:el N x->(∀j y,j<i->xs[j]? = η y->cU y≠cU x)->∃h11:AH,fV Tryz.prog h10 (η (.map 175 3)) (.map (η h2.next)) (pD (cU x)) (ξ ψ (i:Int))=η (undef,h11)/\WR ((i:Int)+1) λx29=>RE (n - i) λm'=>∃(i:Nat) (f:dV->Option Nat),x29=i/\i<=n/\m' = n - i/\dP pD h11 h2.next (λy=>(f y).map iV)/\(∀y,(f y).isSome=true↔∃j x,j<i/\xs[j]? = η x/\cU x=y)/\(∀j x,j<i->xs[j]? = η x->el N x)/\(∀j i' x y,j<i'->i' < i->xs[j]? = η x->xs[i']? = η y->cU x≠cU y)/\Mt (λz=>z=h2.next) h3 h11:=λhx1 hx2=>by
   obtain⟨h11,y1,y2,y3,y4⟩:=M10.put (e:=3) GP (cU x) (iV i);refine⟨h11,y1,_,eD U,n - (i+1),U,i+1,λy=>if y=cU x then η i else f y,rfl,U,rfl,?_,λy=>?_,λj y hj hy=>?_,λj i' y y' h1 h2 h3 h4=>?_,m4.trans (⟨U,λz hz hn=>(y4 z hn).trans (m410.get z hz U)⟩:Mt (λz=>z=h2.next) h4 h11) λz hz _=>hz⟩
   .have e:(λy=>if y=cU x then η (iV i) else(f y).map iV)=λy=>(if y=cU x then η i else f y).map iV:=by
     funext y
     by_cases h:y=cU x
     .simp[h]
     .simp[h]
    rw[<-e];exact y2
   .by_cases h:y=cU x
    .subst h;simp only[if_pos rfl];exact⟨λ_=>⟨i,x,U,hx,rfl⟩,λ_=>rfl⟩
    .simp only[if_neg h];rw[hf y];constructor
     .rintro⟨j,x',h1,h2,h3⟩;exact⟨j,x',U,h2,h3⟩
     .rintro⟨j,x',h1,h2,h3⟩;by_cases e:j=i
      .subst e;rw[hx]at h2;obtain rfl:=Option.some.inj h2;exact absurd h3.symm h
      .exact⟨j,x',U,h2,h3⟩
   .by_cases e:j=i
    .subst e;rw[hx]at hy;obtain rfl:=Option.some.inj hy;exact hx1
    .exact hok j y U hy
   .by_cases e:i' = i
    .subst e;rw[hx]at h4;obtain rfl:=Option.some.inj h4;exact hx2 j y U h3
    .exact hone j i' y y' h1 U h3 h4
  refine⟨h9,s9,h10,s10,λhw0=>?_,λhw0=>⟨λh=>absurd h hw0,λ_ h12 e12=>bad (λB=>hw0 (ab.wrong_ok.2 (B.ok x (List.mem_of_getElem? hx)))) _ _ _ (aj e12).1⟩⟩;have hx1:=ab.wrong_ok.1 hw0;obtain⟨iz,hiz,hz0⟩:=yd;have hlook:=M10.look (e:=3) GP hiz hz0 (by rfl) (cU x) true;refine⟨_,_,_,_,_,n10,((f (cU x)).map Int.ofNat).getD 0,(f (cU x)).isSome,?_,λhb=>?_,λhb=>⟨λ_=>?_,λh=>absurd hw0 h⟩⟩
  .refine hlook.trans ?_;cases f (cU x) <;>rfl
  .refine⟨λh=>absurd h (by decide),λ_ h12 e12=>bad (λB=>?_) _ _ _ (aj e12).1⟩;obtain⟨j,y,h1,h2,h3⟩:=(hf _).1 hb;exact B.one j i y x h1 h2 hx h3
  .refine⟨_,_,_,_,_,n10,put hx1 λj y hj hy he=>?_⟩;rw[(hf _).2 ⟨j,y,hj,hy,he⟩]at hb;cases hb
 .obtain rfl:i=n:=U;refine hK1 ⟨U,λx hx=>?_,λj i' x y h1 h2 h3=>hone j i' x y h1 (by have:=(List.getElem?_eq_some_iff.1 h3).1;omega) h2 h3⟩ h4 k14;obtain⟨j,hj⟩:=List.getElem?_of_mem hx;exact hok j x (by have:=(List.getElem?_eq_some_iff.1 hj).1;omega) hj
end
end Eva
end
section
open Go Go.RowKit
namespace Eva
theorem FE {cells:List Value}{f:Nat->List Value}{s:Nat}(hs:0<s) (hf:∀k,(f k).length=s){n:Nat}(hl:cells.length=n*s) (h:∀k,k<n->(cells.drop (k*s)).take s=f k):cells=cR f n:=by
 apply List.ext_getElem?;intro i;by_cases hi:i<n*s
 .have hd:i / s<n:=(Nat.div_lt_iff_lt_mul hs).2 hi;have hm:i % s<s:=Nat.mod_lt _ hs;have he:i=i / s*s+i % s:=by have:=Nat.div_add_mod i s;rw[Nat.mul_comm]at this;omega
  have h1:=h _ hd;have h2:=uM hf hd hm;rw[he,h2,<-h1,List.getElem?_take,if_pos hm,List.getElem?_drop]
 .rw[List.getElem?_eq_none U,List.getElem?_eq_none (by rw[dB hf];omega)]
section
variable {α:Type}{r:Rc α}{h h':AH}{D:Nat->Prop}{e:TypeId}{A:Option Addr}{n K:Nat}{xs:List α}
theorem al.elems (o:al r h D e A n K xs) (hn:0<n) (hr:0<r.size):∃g f,A=η ⟨g,0,ν⟩/\D g/\g<h.next/\Bk h g (cR f n) e/\(∀k,(f k).length=r.size)/\(K=cl n\/K=2*n)/\(∀k,k<n->∀u∈f k,flat u=true)/\∀k x,xs[k]? = η x->r.rel (λb=>D b/\b≠g) h (f k) x:=by
 obtain⟨hl,o⟩:=o;rcases o with⟨_,h1,_⟩ | ⟨g,cells,rfl,h1,h2,h3,h4,h5,h6,h7⟩
 .omega
 .have hcut:∀k,k<n->((cells.drop (k*r.size)).take r.size).length=r.size:=λk hk=>by
   have:(k+1)*r.size<=n*r.size:=Nat.mul_le_mul_right _ hk;rw[Nat.succ_mul]at this;simp;omega
  have hf:∀k,(if k<n then(cells.drop (k*r.size)).take r.size else List.replicate r.size undef).length=r.size:=λk=>by
   split
   .exact hcut k (by assumption)
   .simp
  refine⟨g,λk=>if k<n then(cells.drop (k*r.size)).take r.size else List.replicate r.size undef,rfl,h1,h2,?_,hf,h5,λk hk u hu=>?_,λk x hx=>?_⟩
  .have:cells=cR (λk=>if k<n then(cells.drop (k*r.size)).take r.size else List.replicate r.size undef) n:=FE hr hf h4 λk hk=>by simp only[if_pos hk]
   rw[<-this];exact h3
  .simp only[if_pos hk]at hu;exact h6 u (List.mem_of_mem_drop (List.mem_of_mem_take hu))
  .have hk:k<n:=by rw[<-hl];exact(List.getElem?_eq_some_iff.1 hx).1
   simp only[if_pos hk];exact h7 k x hx
theorem al.of_elems {g:Nat}{f:Nat->List Value}(hl:xs.length=n) (h1:D g) (h2:g<h.next) (h3:Bk h g (cR f n) e) (hf:∀k,(f k).length=r.size) (h5:K=cl n\/K=2*n) (h7:∀k x,xs[k]? = η x->r.rel (λb=>D b/\b≠g) h (f k) x):al r h D e (η ⟨g,0,ν⟩) n K xs:=by
 refine⟨hl,.inr ⟨g,_,rfl,h1,h2,h3,dB hf n,h5,λu hu=>?_,λk x hx=>?_⟩⟩
 .obtain⟨k,hk,hu⟩:=List.mem_flatMap.1 hu;have hk':k<n:=by simpa using hk
  have hx:xs[k]? = η (xs[k]' U):=List.getElem?_eq_getElem _;exact r.flat (h7 k _ hx) u hu
 .rw[iN hf n (by rw[<-hl];exact(List.getElem?_eq_some_iff.1 hx).1)];exact h7 k x hx
end
theorem al.ints {h:AH}{D:Nat->Prop}{e:TypeId}{A:Option Addr}{n K:Nat}{xs:List Int}(o:al cI h D e A n K xs) (hn:0<n):∃g,A=η ⟨g,0,ν⟩/\D g/\g<h.next/\Bk h g (xs.map (Value.int .i64)) e:=by
 obtain⟨hl,o⟩:=o;rcases o with⟨_,h1,_⟩ | ⟨g,cells,rfl,h1,h2,h3,h4,h5,h6,h7⟩
 .omega
 .refine⟨g,rfl,h1,h2,?_⟩;have h4':cells.length=n:=by rw[h4];exact Nat.mul_one n
  have:cells=xs.map (Value.int .i64):=by
   apply List.ext_getElem?;intro i;rw[List.getElem?_map];by_cases hi:i<n
   .have hx:xs[i]? = η (xs[i]' U):=List.getElem?_eq_getElem _;have hr:(cells.drop (i*1)).take 1 = [Value.int .i64 (xs[i]' U)]:=h7 i _ hx;have hc:cells[i]? = η (cells[i]' U):=List.getElem?_eq_getElem _;rw[Nat.mul_one,di hc]at hr;rw[hc,hx];simpa using hr
   .rw[List.getElem?_eq_none U,List.getElem?_eq_none U];rfl
  rw[<-this];exact h3
section
variable {h h':AH}{F Fa Ft:Nat->Prop}{Q:Value->AH->Prop}{A:Option Addr}{n K g:Nat}{N:ab}
theorem bW.endsL {M:ab}(S:bW N M) (q:Bool):M.endsL q=N.endsL q:=by unfold ab.endsL;rw[S.nv,S.ends,S.na]
theorem bW.plL {M:ab}(S:bW N M):M.plL=N.plL:=by
 unfold ab.plL;rw[S.na]
 congr 1
 funext a
 rw[S.inPl,S.outPl]
structure jm (h h':AH) (Fa Ft F:Nat->Prop) (g:Nat) (M:ab):Prop where
 gr:∃Fa' Ft' F',qq h' Fa' Ft' F' g M/\(∀z,Fa' z\/Ft' z->Fa z\/Ft z\/h.next<=z)/\∀z,F' z->F z
 mt:Mt (λz=>Fa z\/Ft z) h h'
theorem HP (X:qq h Fa Ft F g N){a:Nat}(ha:a<N.na){w:Int}(hw:aR w=true) (hK:∀h',jm h h' Fa Ft F g (N.setW a w)->Q .nilIface h') :
  WC Tryz.prog 150 [μ (η ⟨g,0,ν⟩),ξ ψ a,ξ ψ w] h Q:=by
 have hfr:=(ab.fr_lt X.ok ha).2;have hto:=(ab.to_lt X.ok ha).2;have S:=ab.setW_shp (N:=N) a w;have hok:=ab.setW_ok X.ok (a:=a) hw;refine kC (rg X.gr ha ⟨_,rfl,λ_=>iO hw ⟨_,rfl,λ_=>?_,λh=>Bool.noConfusion h⟩,λh=>Bool.noConfusion h⟩);obtain⟨o,⟨a1,a2,a3,a4,a5⟩,⟨b1,b2,b3,b4,b5⟩,⟨c1,c2,c3,c4,c5⟩,⟨d1,d2,d3,d4,d5⟩,⟨e1,e2,e3,e4,e5⟩,⟨f1,f2,f3,f4,f5⟩,ok,fw,dj⟩:=X;have hb2:N.na=b2:=b5.len;obtain⟨gA,f,rfl,hD,hlt,hB,hf,hK2,hfl,hrel⟩:=b5.elems U (by decide);have hNg:gA≠g:=λe=>((dj gA).1 hD).2 (e ▸ o.1);obtain⟨h2,s2,B2,z2,o2⟩:=sX hB hf (k:=a) U (j:=2) (by decide) (x:=ξ ψ w) rfl;have m2:Mt (λz=>z=gA) h h2:=⟨U,λz _ hn=>o2 z hn⟩;refine⟨g,0,rfl,_,_,_,b4,a,rfl,gA,0,rfl,U,h2,s2,hK h2 ⟨⟨Fa,Ft,F,?_,λz hz=>hz.elim .inl λh=>.inr (.inl h),λz hz=>hz⟩,m2.mono λz hz _=>.inl (hz ▸ hD)⟩⟩;have hg:∀j,ldC h2 g j=ldC h g j:=λj=>be (o2 g λe=>hNg e.symm) j;have kF:∀{α:Type}{r:Rc α}{A:Option Addr}{n K:Nat}{xs:List α},Sa r F h A n K xs->Sa r F h2 A n K xs:=λs=>s.off m2 λz hz e=>((dj gA).1 hD).2 (e ▸ hz);have hfa:f a = [ξ ψ (N.arc a).1,ξ ψ (N.arc a).2.1,ξ ψ (N.arc a).2.2]:=hrel a _ (ab.arc_get ha);have hen:∀q,(N.setW a w).endsL q=N.endsL q:=bW.endsL S;have hpl:(N.setW a w).plL=N.plL:=bW.plL S;refine⟨⟨o.1,U⟩,⟨a1,a2,a3,(hg _).trans a4,kF a5⟩,⟨_,b2,b3,(hg _).trans b4,al.of_elems (by rw[<-hb2];exact S.na) hD U B2 (λk=>?_) hK2 λk x hx=>?_⟩,⟨c1,c2,c3,(hg _).trans c4,c5.off m2 λz hz _ e=>((dj gA).1 hD).1 (e ▸ hz)⟩,⟨d1,d2,d3,(hg _).trans d4,by rw[hen];exact kF d5⟩,⟨e1,e2,e3,(hg _).trans e4,by rw[hen];exact kF e5⟩,⟨f1,f2,f3,(hg _).trans f4,by rw[hpl];exact kF f5⟩,hok,by rw[S.nv,S.na];exact fw,dj⟩
 .unfold upd
  split
  .simp[hf]
  .exact hf k
 .show aN.rel _ h2 (upd f a ((f a).set 2 (ξ ψ w)) k) x;have hx':(N.xa.set a ((N.arc a).1,(N.arc a).2.1,w))[k]? = η x:=hx;rw[List.getElem?_set]at hx';unfold upd;by_cases e:k=a
  .subst e;rw[if_pos rfl,if_pos (by exact ha)]at hx';obtain rfl:=Option.some.inj hx';rw[if_pos rfl,hfa];rfl
  .rw[if_neg (λh=>e h.symm)]at hx';rw[if_neg e];exact hrel k x hx'
end
end Eva
end
section
open Go Go.RowKit
namespace Eva
section
variable {h h':AH}{F Fa Ft:Nat->Prop}{Q:Value->AH->Prop}{A:Option Addr}{n K g:Nat}{N:ab}
theorem GR {ins outs:Int}{costs:List Int}(hs:Sa cI F h A n K costs) (hok:cM ins outs costs){i o:Nat}(hi:(i:Int)<ins) (ho:(o:Int)<outs){c:Int}(hc:aR c=true)
  (hK:∀A' K' h',Sa cI (λz=>h.next<=z) h' A' n K' (costs.set (i*outs.toNat+o) c)->Nw h h'->Q (.tuple #[.agg #[ξ ψ ins,ξ ψ outs,ω A' n K'],.nilIface]) h') :
  WC Tryz.prog 223 [.agg #[ξ ψ ins,ξ ψ outs,ω A n K],ξ ψ i,ξ ψ o,ξ ψ c] h Q:=by
 have hlen:=hs.len;have h16:=hok.ins_;have h17:=hok.outs_;have hcl:=hok.len;obtain⟨ins,rfl⟩:=Int.eq_ofNat_of_zero_le h16.1;obtain⟨outs,rfl⟩:=Int.eq_ofNat_of_zero_le h17.1;have hio:i*outs+o<ins*outs:=mA U U;have hn:n=ins*outs:=by
  have h3:((costs.length:Nat):Int)=((ins*outs:Nat):Int):=by rw[hcl];simp
  omega
 have hmul:ins*outs<=16*16:=Nat.mul_le_mul U U;have hmul2:i*outs<=16*16:=Nat.mul_le_mul U U;obtain⟨t,ht⟩:∃t,i*outs=t:=⟨_,rfl⟩;rw[ht]at hio hmul2;refine uj λh1 e1 h2 e2=>?_;obtain⟨k1,g1,z1⟩:=aj e1;obtain⟨k2,g2,z2⟩:=aj e2;have k12:=k1.trans k2;have b1:∀{h'},Nw h2 h'->Bk h' h.next [ξ ψ (ins:Int),ξ ψ (outs:Int),ω A n K] 271:=λa=>a.bk U (k2.bk U g1);have q:∀{h'}(a:Nw h2 h'){j v},[Value.int .i64 (ins:Int),ξ ψ (outs:Int),ω A n K][j]? = η v->ldC h' h.next j=η v:=fun {h'} a {j v} hj=>aa (b1 a) hj;refine⟨λh=>absurd h U,λ_=>⟨_,q (Nw.refl _) (j:=0) rfl,λh=>absurd h U,λ_=>⟨λh=>absurd h U,λ_=>⟨_,q (Nw.refl _) (j:=1) rfl,λh=>absurd h U,λ_=>iO hc ⟨_,rfl,λ_=>⟨_,_,_,_,_,aK (q (Nw.refl _) (j:=0) rfl) (q (Nw.refl _) (j:=1) rfl) (q (Nw.refl _) (j:=2) rfl),pw (hs.z.nw k12) hok λh12 k3=>⟨ν,rfl,λ_=>⟨_,_,_,q k3 (j:=2) rfl,uN (hs.nw (k12.trans k3)) U λA8 K8 h13 o8 k8 lo8=>⟨_,_,_,rfl,?_⟩⟩,λt u h=>by cases h⟩⟩,λh=>Bool.noConfusion h⟩⟩⟩⟩⟩;have z12:=k3.next;have z13:=k8.next;obtain⟨g8,rfl,d8,l8,B8⟩:=o8.ints U;have lg8:=lo8 _ d8;obtain⟨h14,s14,B14,z14,o14⟩:=aD (v:=ω (η ⟨g8,0,ν⟩) n K8) (o:=2) (b1 (k3.trans k8)) (by simp) rfl;have B14':Bk h14 h.next [ξ ψ (ins:Int),ξ ψ (outs:Int),ω (η ⟨g8,0,ν⟩) n K8] 271:=B14;have B8':=(o14 g8 U).trans B8;obtain⟨h15,s15,B15,z15,o15⟩:=aD (v:=ξ ψ c) (o:=0+(t+o)) B8' (by rw[List.length_map];omega) rfl;have B15':Bk h15 h.next [ξ ψ (ins:Int),ξ ψ (outs:Int),ω (η ⟨g8,0,ν⟩) n K8] 271:=(o15 _ U).trans B14';obtain⟨h16,s16,B16,z16,o16⟩:=bL (vs:=[ξ ψ (ins:Int),ξ ψ (outs:Int),ω (η ⟨g8,0,ν⟩) n K8]) ((o15 _ U).trans ((o14 _ U).trans ((k3.trans k8).bk U g2))) rfl (eC rfl rfl rfl);have w1:IntKind.i64.wrap ((i:Int)*(outs:Int))=(t:Int):=by
  rw[<-Int.natCast_mul,ht];exact af U U
 have w2:IntKind.i64.wrap ((t:Int)+(o:Int))=((t+o:Nat):Int):=by rw[Int.natCast_add];exact af U U
 refine⟨h14,s14,_,_,_,aa B14' rfl,_,aa B14' rfl,_,w1,_,w2,t+o,rfl,g8,0,rfl,U,h15,s15,_,_,_,_,_,aK (aa B15' rfl) (aa B15' rfl) (aa B15' rfl),h16,s16,_,_,_,_,_,aK (aa B16 rfl) (aa B16 rfl) (aa B16 rfl),hK _ _ h16 ?_ ?_⟩
 .have e:(costs.map (Value.int .i64)).set (0+(t+o)) (ξ ψ c)=(costs.set (i*(outs:Int).toNat+o) c).map (Value.int .i64):=by
   rw[List.map_set,Int.toNat_natCast,ht,Nat.zero_add]
  refine Sa.of_ints (e:=2) (f:=false) ?_ (by rw[List.length_set];exact hlen) U U;have:=(o16 g8 U).trans B15
  rwa [e]at this
 .exact⟨U,λz hz=>(o16 z U).trans ((o15 z U).trans ((o14 z U).trans (((k12.trans k3).trans k8).get z hz)))⟩
theorem GS (X0:qq h Fa Ft F g N){t i o:Nat}(ht:t<N.ts.length) (hi:(i:Int)<(N.tb t).1) (ho:(o:Int)<(N.tb t).2.1){c:Int}(hc:aR c=true) (hK:∀h',jm h h' Fa Ft F g (N.bend t i o c)->Q .nilIface h') :
  WC Tryz.prog 151 [μ (η ⟨g,0,ν⟩),ξ ψ t,ξ ψ i,ξ ψ o,ξ ψ c] h Q:=by
 have X:=X0.lt;have S:=ab.bend_shp (N:=N) t i o c;have hok:=ab.bend_ok X.ok (t:=t) (i:=i) (o:=o) ht hc;have htk:=ab.tb_ok X.ok ht;obtain⟨⟨o1,o2⟩,⟨a1,a2,a3,a4,a5⟩,⟨b1,b2,b3,b4,b5⟩,⟨c1,c2,c3,c4,c5⟩,⟨d1,d2,d3,d4,d5⟩,⟨y1,y2,y3,y4,y5⟩,⟨f1,f2,f3,f4,f5⟩,ok,fw,dj⟩:=X;have hnt:=ok.nt;have hc2:N.ts.length=c2:=c5.len;obtain⟨gT,f,rfl,hD,hlt,hB,hf,hK2,hfl,hrel⟩:=c5.elems U (by decide);have htt:N.ts[t]? = η (N.tb t):=by simp[ab.tb,List.getElem?_eq_getElem ht]
 obtain⟨A',n',K',hft,hs⟩:=hrel t _ htt;have hld:∀j u,(f t)[j]? = η u->ldC h gT (0+t*3+j)=η u:=λj u hj=>by
  have hj3:j<3:=by have:=(List.getElem?_eq_some_iff.1 hj).1;rw[hf]at this;exact this
  rw[aT hB,Nat.zero_add,uM (s:=3) hf U hj3,hj]
 have hl3:au h gT (0+t*3) 3=η [ξ ψ (N.tb t).1,ξ ψ (N.tb t).2.1,ω A' n' K']:=aK (hld 0 _ (by rw[hft];rfl)) (hld 1 _ (by rw[hft];rfl)) (hld 2 _ (by rw[hft];rfl));refine jO ⟨λh=>absurd h U,λ_=>⟨g,0,rfl,_,_,_,c4,λh=>absurd h U,λ_=>⟨_,_,_,c4,t,rfl,gT,0,rfl,U,_,_,_,_,_,hl3,GR hs htk hi ho hc λA4 K4 h3 s3 k3=>⟨_,_,_,_,_,ν,rfl,λh4 e4=>?_⟩⟩⟩⟩;obtain⟨h5,s5,k5,g5,z5⟩:=aC (vs:=[ξ ψ (N.tb t).1,ξ ψ (N.tb t).2.1,ω A4 n' K4]) e4 rfl (eC rfl rfl rfl);have k35:=k3.trans k5;have z3:=k3.next;obtain⟨h6,s6,B6,z6,o6⟩:=wH (k35.bk hlt hB) hf (k:=t) U (v:=[ξ ψ (N.tb t).1,ξ ψ (N.tb t).2.1,ω A4 n' K4]) rfl (eC rfl rfl rfl);have m6:Mt (λz=>z=gT) h5 h6:=⟨U,λz _ hn=>o6 z hn⟩;have m:Mt (λz=>z=gT) h h6:=(Mt.of k35).then m6;have hNg:gT≠g:=λe=>(dj gT).2 hD (e ▸ o1);have hg:∀{h'} j,Nw h h'->ldC h' g j=ldC h g j:=λj a=>a.ldC o2 j;have hg6:∀j,ldC h6 g j=ldC h g j:=λj=>be (m.get g o2 λe=>hNg e.symm) j;have kF:∀{α:Type}{r:Rc α}{A:Option Addr}{n K:Nat}{xs:List α},Sa r (λz=>F z/\z<h.next) h A n K xs->Sa r (λz=>F z/\z<h.next) h6 A n K xs:=λs=>s.off m λz hz e=>(dj gT).2 hD (e ▸ hz);refine⟨h5,s5,λ_=>⟨_,_,_,(hg 2 k35).trans c4,_,_,_,_,_,aK (aa g5 rfl) (aa g5 rfl) (aa g5 rfl),gT,0,rfl,U,h6,s6,hK h6 ⟨⟨λz=>Fa z/\z<h.next,λz=>(Ft z/\z<h.next)\/h.next<=z,λz=>F z/\z<h.next,?_,λz hz=>?_,λz hz=>hz.1⟩,m.mono λz hz _=>.inr (hz ▸ hD.1)⟩⟩,λt u h=>by cases h⟩
 .refine⟨⟨o1,by have:=m.next;omega⟩,⟨a1,a2,a3,(hg6 _).trans a4,kF a5⟩,⟨b1,b2,b3,(hg6 _).trans b4,b5.off m λz hz _ e=>((dj z).1 hz).1 (e ▸ hD)⟩,⟨_,c2,c3,(hg6 _).trans c4,al.of_elems (by rw[<-hc2];exact S.nt) (.inl hD) (by have:=m.next;omega) B6 (λk=>?_) hK2 λk x hx=>?_⟩,⟨d1,d2,d3,(hg6 _).trans d4,by rw[bW.endsL S];exact kF d5⟩,⟨y1,y2,y3,(hg6 _).trans y4,by rw[bW.endsL S];exact kF y5⟩,⟨f1,f2,f3,(hg6 _).trans f4,by rw[bW.plL S];exact kF f5⟩,hok,by rw[S.nv,S.na];exact fw,λz=>⟨λhz=>⟨λhd=>hd.elim ((dj z).1 hz).1 λhd=>by have:=hz.2;omega,((dj z).1 hz).2⟩,λhd hz=>hd.elim (λhd=>(dj z).2 hd hz) λhd=>by have:=hz.2;omega⟩⟩
  .unfold upd
   split
   .rfl
   .exact hf k
  .have hx':(N.ts.set t (wz (N.tb t) i o c))[k]? = η x:=hx;rw[List.getElem?_set]at hx';unfold upd;by_cases e:k=t
   .subst e;rw[if_pos rfl,if_pos ht]at hx';obtain rfl:=Option.some.inj hx';rw[if_pos rfl];exact⟨A4,n',K4,rfl,((s3.nw k5).off m6 λz hz e=>U).mono λz hz _=>⟨.inr hz,U⟩⟩
   .rw[if_neg (λh=>e h.symm)]at hx';rw[if_neg e];exact ep.mono (λz hz _=>⟨.inl hz.1,hz.2⟩) (ep.keep (λz hz hl=>m.get z hl hz.2) m.next (hrel k x hx'))
 .rcases hz with hz | hz | hz
  .exact .inl hz.1
  .exact .inr (.inl hz.1)
  .exact .inr (.inr hz)
end
end Eva
end
section
open Go Go.RowKit
namespace Eva
section
variable {h h' h2 h3:AH}{F Fa Ft:Nat->Prop}{Q:Value->AH->Prop}{A:Option Addr}{n K g:Nat}{N M M':ab}{xs:List dV}
theorem jm.refl (X:qq h Fa Ft F g N):jm h h Fa Ft F g N:=⟨⟨Fa,Ft,F,X,λz hz=>hz.elim .inl λh=>.inr (.inl h),λz hz=>hz⟩,Mt.refl _ _⟩
theorem jm.nw (T:jm h h2 Fa Ft F g M) (a:Nw h2 h3):jm h h3 Fa Ft F g M:=by
 obtain⟨⟨Fa',Ft',F',X,c1,c2⟩,m⟩:=T;exact⟨⟨Fa',Ft',F',X.nw a,c1,c2⟩,m.nw a⟩
theorem jm.step (T:jm h h2 Fa Ft F g M){P:Prop}(hK:(∀Fa' Ft' F',qq h2 Fa' Ft' F' g M->(∀h3 M',jm h2 h3 Fa' Ft' F' g M'->jm h h3 Fa Ft F g M')->P)):P:=by
 obtain⟨⟨Fa',Ft',F',X,c1,c2⟩,m⟩:=T;refine hK Fa' Ft' F' X λh3 M' T2=>?_;obtain⟨⟨Fa'',Ft'',F'',X2,d1,d2⟩,m2⟩:=T2;have hn:=m.next;refine⟨⟨Fa'',Ft'',F'',X2,λz hz=>?_,λz hz=>c2 z (d2 z hz)⟩,m.trans m2 λz hz hl=>?_⟩
 .rcases d1 z hz with h | h | h
  .exact c1 z (.inl h)
  .exact c1 z (.inr h)
  .exact .inr (.inr U)
 .rcases c1 z hz with h | h | h
  .exact .inl h
  .exact .inr h
  .omega
theorem FG (X:qq h Fa Ft F g N){Fl:Nat->Prop}(hs:Sz dQ Fl h A n K xs) (hFl:∀z,Fl z->¬Fa z/\¬Ft z) (B:bI N xs) (hK:∀h',jm h h' Fa Ft F g (N.doL xs)->Q .nilIface h') :
  WC Tryz.prog 72 [μ (η ⟨g,0,ν⟩),ω A n K] h Q:=by
 have hl:=hs.len;have hn:=B.len;refine qe (yj X.gr hs (λ_ h1 k1=>⟨ν,rfl,λ_=>?_,λt u h=>by cases h⟩) λhno=>absurd B hno);refine⟨λm x h2=>∃i:Nat,x=i/\i<=n/\m=n - i/\jm h h2 Fa Ft F g (N.doL (xs.take i)),n,⟨0,rfl,Nat.zero_le _,rfl,(jm.refl X).nw k1⟩,?_⟩;rintro m x h2 ⟨i,rfl,hi,rfl,T⟩;refine⟨λhlt=>?_,λhge=>?_⟩
 .obtain⟨b',o',x,hA',-,hlb,hx,hc,hn5⟩:=(hs.off T.mt λz hz hs=>hs.elim (hFl z hz).1 (hFl z hz).2).chg (k:=i) U;refine⟨i,rfl,b',o',hA',U,_,_,_,_,_,hn5,λh3 e3=>?_⟩;obtain⟨h4,s4,k4,g4,z4⟩:=aC (vs:=dR x) e3 rfl (uX x);have S:=ab.doL_shp (xs.take i) (N:=N);have hxo:=(B.ok x (List.mem_of_getElem? hx)).shp S;have htk:xs.take (i+1)=xs.take i ++ [x]:=by rw[List.take_add_one,hx];rfl
  have fin:∀h5,jm h h5 Fa Ft F g ((N.doL (xs.take i)).do1 x)->WR ((i:Int)+1) λx10=>RE (n - i) λm'=>∃i:Nat,x10=i/\i<=n/\m' = n - i/\jm h h5 Fa Ft F g (N.doL (xs.take i)):=λh5 T5=>
   ⟨_,eD U,n - (i+1),U,i+1,rfl,U,rfl,by rw[htk,ab.doL_snoc];exact T5⟩
  obtain⟨kd,at_,ci,co,w⟩:=x;refine⟨h4,s4,kd,aa g4 rfl,λc1=>⟨at_,aa g4 rfl,w,aa g4 rfl,?_⟩,λc1=>⟨λc2=>⟨at_,aa g4 rfl,ci,aa g4 rfl,co,aa g4 rfl,w,aa g4 rfl,?_⟩,λc2=>?_⟩⟩
  .subst c1;obtain⟨hw,⟨-,a1,a2,-,-⟩ | ⟨h1,-⟩⟩:=hxo
   .obtain⟨a,rfl⟩:=Int.eq_ofNat_of_zero_le a1;refine(T.nw k4).step λFa' Ft' F' X4 st=>HP X4 (a:=a) (by exact Int.ofNat_lt.1 a2) hw λh5 T5=>⟨ν,rfl,λ_=>fin h5 (st h5 _ ?_),λt u h=>by cases h⟩;exact T5
   .simp at h1
  .subst c2;obtain⟨hw,⟨h1,-⟩ | ⟨-,⟨a1,a2⟩,⟨a3,a4⟩,a5,a6⟩⟩:=hxo
   .simp at h1
   .simp only at a1 a2 a3 a4 a5 a6;obtain⟨a,rfl⟩:=Int.eq_ofNat_of_zero_le a1;obtain⟨b,rfl⟩:=Int.eq_ofNat_of_zero_le a3;obtain⟨c,rfl⟩:=Int.eq_ofNat_of_zero_le a5;refine(T.nw k4).step λFa' Ft' F' X4 st=>GS X4 (t:=a) (i:=b) (o:=c) (by exact Int.ofNat_lt.1 a2) (by exact a4) (by exact a6) hw λh5 T5=>⟨ν,rfl,λ_=>fin h5 (st h5 _ ?_),λt u h=>by cases h⟩;exact T5
  .exfalso;rcases hxo.is with⟨h1,-⟩ | ⟨h1,-⟩
   .exact c1 h1
   .exact c2 h1
 .obtain rfl:i=n:=U;have:xs.take i=xs:=List.take_of_length_le U;rw[this]at T;exact hK h2 T
end
end Eva
end
section
open Go Go.RowKit
theorem yk {nv:Nat}{p:List (List Int)}(hp:aB nv p){k v:Nat}{row:List Int}{x:Int}(hr:p[k]? = η row) (hx:row[v]? = η x):x=(ap p (k+1) v:Int):=by
 have:=(hp.inr _ (List.mem_of_getElem? hr) x (List.mem_of_getElem? hx)).1;unfold ap;rw[Nat.add_sub_cancel,hr,Option.getD_some,hx,Option.getD_some];omega
namespace Eva
def jx (np:Nat) (B:Nat->Nat) (R:Nat->List Bool):List Value:=(List.range np).map λi=>ω (η ⟨B i,0,ν⟩) (R i).length (cx (R i).length)
structure lz (base:Nat) (h:AH) (T np:Nat) (B:Nat->Nat) (R:Nat->List Bool):Prop where
 top:Bk h T (jx np B R) 173
 row:∀i,i<np->Bk h (B i) ((R i).map Value.bool) 4
 one:∀i j,i<np->j<np->B i=B j->i=j
 apart:∀i,i<np->B i≠T
 lo:base<=T/\∀i,i<np->base<=B i
 lt:T<h.next/\∀i,i<np->B i<h.next
section
variable {base:Nat}{h h':AH}{F:Nat->Prop}{Q:Value->AH->Prop}{A:Option Addr}{n K T np:Nat}{B:Nat->Nat}{R:Nat->List Bool}{p:List (List Int)}
theorem lz.keep (M:lz base h T np B R) (hk:∀z,base<=z->z<h.next->h'.get z=h.get z) (hn:h.next<=h'.next):lz base h' T np B R:=
 ⟨(hk T M.lo.1 M.lt.1).trans M.top,λi hi=>(hk _ (M.lo.2 i hi) (M.lt.2 i hi)).trans (M.row i hi),M.one,M.apart,M.lo,by have:=M.lt.1;omega,λi hi=>by have:=M.lt.2 i hi;omega⟩
theorem lz.nw (M:lz base h T np B R) (a:Nw h h'):lz base h' T np B R:=M.keep (λz _ hz=>a.get z hz) a.next
theorem lz.off (M:lz base h T np B R){S:Nat->Prop}(m:Mt S h h') (hS:∀z,S z->z=T\/(∃i,i<np/\z=B i)->False):lz base h' T np B R:=
 ⟨(m.get T M.lt.1 λhs=>hS T hs (.inl rfl)).trans M.top,λi hi=>(m.get _ (M.lt.2 i hi) λhs=>hS _ hs (.inr ⟨i,hi,rfl⟩)).trans (M.row i hi),M.one,M.apart,M.lo,by have:=M.lt.1;have:=m.next;omega,λi hi=>by have:=M.lt.2 i hi;have:=m.next;omega⟩
theorem lz.at_ (M:lz base h T np B R){i:Nat}(hi:i<np):ldC h T (0+i)=η (ω (η ⟨B i,0,ν⟩) (R i).length (cx (R i).length)):=by
 refine aa M.top ?_;rw[Nat.zero_add];simp[jx,hi]
theorem zH {l:List Bool}{k:Nat}{b:Bool}:(l.map Value.bool).set k (.bool b)=(l.set k b).map Value.bool:=by rw[List.map_set]
theorem lz.put (M:lz base h T np B R){i c:Nat}(hi:i<np) (hc:c<(R i).length):∃h2,iE h (B i) (0+c) [.bool true]=η h2/\lz base h2 T np B (upd R i ((R i).set c true))/\Mt (λz=>∃i,i<np/\z=B i) h h2:=by
 obtain⟨h2,s2,B2,z2,o2⟩:=aD (v:=.bool true) (o:=0+c) (M.row i hi) (by rw[List.length_map];omega) rfl;rw[Nat.zero_add,zH]at B2;have hl:∀j,(upd R i ((R i).set c true) j).length=(R j).length:=λj=>by
  unfold upd
  split
  .rename_i e;rw[List.length_set,e]
  .rfl
 refine⟨h2,s2,⟨?_,λj hj=>?_,M.one,M.apart,M.lo,by have:=M.lt.1;omega,λj hj=>by have:=M.lt.2 j hj;omega⟩,U,λz _ hn=>o2 z λe=>hn ⟨i,hi,e⟩⟩
 .have:jx np B (upd R i ((R i).set c true))=jx np B R:=by
   unfold jx
   congr 1
   funext j
   rw[hl]
  rw[this];exact(o2 T λe=>M.apart i hi e.symm).trans M.top
 .unfold upd;by_cases e:j=i
  .subst e;rw[if_pos rfl];exact B2
  .rw[if_neg e];exact(o2 _ λh=>e (M.one j i hj hi h)).trans (M.row j hj)
def cj (p:List (List Int)) (a b i:Nat) (r:List Bool):List Bool:=if ap p (i+1) a=ap p (i+1) b then r.set (ap p (i+1) a) true else r
theorem pE (p:List (List Int)) (a b i:Nat) (r:List Bool):(cj p a b i r).length=r.length:=by unfold cj;split <;>simp
theorem Ez (M:lz base h T np B R){nv:Nat}(hp:aB nv p) (hs:Sa bh F h A np K p) (hF:∀z,F z->∀i,i<np->z≠B i) (hR:∀i,i<np->(R i).length=aq p (i+1)) (hnp:np<=1000){a b:Nat}(ha:a<nv) (hb:b<nv)
  (hK:∀h',lz base h' T np B (λi=>cj p a b i (R i))->Mt (λz=>∃i,i<np/\z=B i) h h'->Q (.tuple #[]) h') :
  WC Tryz.prog 146 [ω (η ⟨T,0,ν⟩) np (cx np),ω A np K,ξ ψ a,ξ ψ b] h Q:=by
 have hl:=hs.len;refine sE ⟨λm x h1=>∃k:Nat,x=k/\k<=np/\m=np - k/\lz base h1 T np B (λi=>if i<k then cj p a b i (R i) else R i)/\Mt (λz=>∃i,i<np/\z=B i) h h1,np,⟨0,rfl,Nat.zero_le _,rfl,by simpa using M,Mt.refl _ _⟩,?_⟩;rintro m x h1 ⟨k,rfl,hk,rfl,M1,m1⟩;refine⟨λhlt=>?_,λhge=>?_⟩
 .have hk':k<np:=U;obtain⟨b1,o1,A',n',K',row,hA,-,-,hrow,l1,sr⟩:=(hs.off m1 λz hz ⟨i,hi,e⟩=>hF z hz i hi e).row hk';have hrl:=hp.rows _ (List.mem_of_getElem? hrow);have hn':n' = nv:=by rw[<-sr.len];exact hrl
  have next:∀h2,lz base h2 T np B (λi=>if i<k+1 then cj p a b i (R i) else R i)->Mt (λz=>∃i,i<np/\z=B i) h1 h2->WR ((k:Int)+1) λx4=>RE (np - k) λm'=>∃k:Nat,x4=k/\k<=np/\m' = np - k/\lz base h2 T np B (λi=>if i<k then cj p a b i (R i) else R i)/\Mt (λz=>∃i,i<np/\z=B i) h h2:=λh2 M2 m2=>
   ⟨_,eD U,np - (k+1),U,k+1,rfl,U,rfl,M2,m1.then m2⟩
  have eqR:∀r,(r=cj p a b k (R k))->upd (λi=>if i<k then cj p a b i (R i) else R i) k r=λi=>if i<k+1 then cj p a b i (R i) else R i:=λr hr=>by
   funext i
   unfold upd;by_cases e:i=k
   .subst e;simp[hr]
   .rw[if_neg e];show(if i<k then cj p a b i (R i) else R i)=_;by_cases h:i<k
    .rw[if_pos h,if_pos U]
    .rw[if_neg h,if_neg U]
  obtain⟨ba,oa,xa,hAa,-,-,hxa,la⟩:=sr.int (k:=a) U;obtain⟨bb,ob,xb,hAb,-,-,hxb,lb⟩:=sr.int (k:=b) U;have hxa':=yk hp hrow hxa;have hxb':=yk hp hrow hxb;have e1:η (⟨ba,oa,ν⟩:Addr)=η ⟨bb,ob,ν⟩:=hAa.symm.trans hAb;obtain⟨rfl,rfl⟩:ba=bb/\oa=ob:=by simpa using e1
  have hcm:=cC hp (k:=k+1) U U ha;have hk1:(λi=>if i<k then cj p a b i (R i) else R i) k=R k:=by simp
  have at1:=M1.at_ hk';simp only[Nat.lt_irrefl,if_false]at at1;refine⟨k,rfl,b1,o1,hA,hk',A',n',K',l1,λh=>absurd h U,λ_=>⟨λh=>absurd h U,λ_=>⟨λh=>absurd h U,λ_=>⟨λh=>absurd h U,λ_=>⟨λh=>absurd h U,λ_=>⟨a,rfl,ba,oa,hAa,U,xa,la,b,rfl,U,xb,lb,λheq=>⟨λh0=>⟨T,0,rfl,hk',_,_,_,at1,λhlt2=>⟨hk',_,_,_,at1,ap p (k+1) a,hxa',B k,0,rfl,by rw[hR k hk'];exact hcm,?_⟩,λh=>absurd hcm (by rw[hR k hk']at h;omega)⟩,λh=>absurd h U⟩,λhne=>next h1 ?_ (Mt.refl _ _)⟩⟩⟩⟩⟩⟩
  .obtain⟨h2,s2,M2,m2⟩:=M1.put hk' (c:=ap p (k+1) a) (by simp only[Nat.lt_irrefl,if_false];rw[hR k hk'];exact hcm);rw[eqR _ (by simp only[Nat.lt_irrefl,if_false];unfold cj;rw[if_pos U])]at M2;exact⟨h2,s2,next h2 M2 m2⟩
  .have:(λi=>if i<k+1 then cj p a b i (R i) else R i)=λi=>if i<k then cj p a b i (R i) else R i:=by
    rw[<-eqR (R k) (by unfold cj;rw[if_neg U])]
    funext i
    unfold upd;by_cases e:i=k
    .subst e;simp
    .rw[if_neg e]
   rw[this];exact M1
 .obtain rfl:k=np:=U;refine hK h1 (M1.keep (λ_ _ _=>rfl) (Nat.le_refl _) |> λM=>?_) m1;refine⟨?_,λi hi=>?_,M.one,M.apart,M.lo,M.lt⟩
  .have:=M.top;have e:jx k B (λi=>if i<k then cj p a b i (R i) else R i)=jx k B (λi=>cj p a b i (R i)):=by
    unfold jx;apply List.map_congr_left;intro i hi;have:i<k:=by simpa using hi
    simp[this]
   rwa [e]at this
  .have:=M.row i hi;simp only[if_pos hi]at this;exact this
end
end Eva
end
section
open Go Go.RowKit
namespace Eva
theorem pF {p:List (List Int)}{a b j c:Nat}{r:List Bool}:(cj p a b j r)[c]? = η true↔r[c]? = η true\/(ap p (j+1) a=ap p (j+1) b/\c=ap p (j+1) a/\c<r.length):=by
 unfold cj
 split
 .rename_i e;rw[List.getElem?_set];by_cases h:ap p (j+1) a=c
  .rw[if_pos h];by_cases hl:ap p (j+1) a<r.length
   .rw[if_pos hl];exact⟨λ_=>.inr ⟨e,h.symm,U⟩,λ_=>rfl⟩
   .rw[if_neg hl];constructor
    .intro h;cases h
    .rintro(h1 | ⟨_,_,h3⟩)
     .have:=(List.getElem?_eq_some_iff.1 h1).1;omega
     .omega
  .rw[if_neg h];exact⟨.inl,λhh=>hh.elim id λ⟨_,h2,_⟩=>absurd h2.symm h⟩
 .rename_i e;exact⟨.inl,λhh=>hh.elim id λ⟨h1,_⟩=>absurd h1 e⟩
section
variable {h h':AH}{F Fa Fo:Nat->Prop}{Q:Value->AH->Prop}{A:Option Addr}{n K g o:Nat}{N:ab}{p:List (List Int)}{xs:List dV}
def te (N:ab) (p:List (List Int)) (xs:List dV) (i:Nat) (R:Nat->List Bool):Prop:=
 (∀j,j<p.length->(R j).length=aq p (j+1))/\∀j c,j<p.length->((R j)[c]? = η true↔c<aq p (j+1)/\∃q x,q<i/\xs[q]? = η x/\Ds N p (j+1) c x)
theorem te.next {i:Nat}{R R':Nat->List Bool}{x:dV}(M:te N p xs i R) (hx:xs[i]? = η x) (hl:∀j,j<p.length->(R' j).length=(R j).length) (h:∀j c,j<p.length->c<aq p (j+1)->((R' j)[c]? = η true↔(R j)[c]? = η true\/Ds N p (j+1) c x)):te N p xs (i+1) R':=by
 refine⟨λj hj=>(hl j hj).trans (M.1 j hj),λj c hj=>?_⟩;have hlen:(R' j).length=aq p (j+1):=(hl j hj).trans (M.1 j hj);constructor
 .intro h1;have hc:c<aq p (j+1):=by rw[<-hlen];exact(List.getElem?_eq_some_iff.1 h1).1
  refine⟨hc,?_⟩;rcases(h j c hj hc).1 h1 with h2 | h2
  .obtain⟨_,q,y,h3,h4,h5⟩:=(M.2 j c hj).1 h2;exact⟨q,y,U,h4,h5⟩
  .exact⟨i,x,U,hx,h2⟩
 .rintro⟨hc,q,y,h3,h4,h5⟩;refine(h j c hj hc).2 ?_;by_cases e:q=i
  .subst e;rw[hx]at h4;obtain rfl:=Option.some.inj h4;exact .inr h5
  .exact .inl ((M.2 j c hj).2 ⟨hc,q,y,U,h4,h5⟩)
theorem Co (G:eA h Fa F g N) (O:eL h Fo o N p){Fl:Nat->Prop}(hs:Sz dQ Fl h A n K xs) (hK1:bI N xs->∀T B R h',lz h.next h' T p.length B R->te N p xs n R->Nw h h'->Q (.tuple #[ω (η ⟨T,0,ν⟩) p.length (cx p.length),.nilIface]) h')
  (hK2:¬bI N xs->∀t u h',Nw h h'->Q (.tuple #[ω ν 0 0,.iface t u]) h') :
  WC Tryz.prog 71 [μ (η ⟨g,0,ν⟩),μ (η ⟨o,0,ν⟩),ω A n K] h Q:=by
 have hl:=hs.len;have hp:=O.hp;have hnp:=hp.few;have hok:=O.ok;have hnfew:=O.nfew;have hmost:∀k,1<=k->k<=p.length->aq p k<=N.nv:=λk h1 h2=>by
  obtain⟨row,hr⟩:∃row,p[k - 1]? = η row:=⟨_,List.getElem?_eq_getElem U⟩;have h2:=gu hr;have h3:=dg (row:=row) (n:=(N.nv:Int)) U (λx hx=>(hp.inr _ (List.mem_of_getElem? hr) x hx).2);omega
 refine mS (yj G hs (λB h1 k1=>⟨ν,rfl,λ_=>?_,λt u h=>by cases h⟩) λhno t u h1 k1=>⟨η (t,u),rfl,λh=>(by cases h),λt' u' e=>by cases e;exact hK2 hno t u h1 k1⟩);have hn:=B.len;refine sU (O.nw k1) ⟨_,rfl,p.length,rfl,U,λh3 e3=>?_⟩;obtain⟨k3,g3,z3⟩:=aj e3;rw[a9]at g3;have k13:=k1.trans k3;obtain⟨T,hT⟩:∃T,h1.next=T:=⟨_,rfl⟩;have z1:=k1.next;rw[hT]at g3 z3;rw[hT];refine⟨λm x h4=>∃(i:Nat) (B:Nat->Nat),x=i/\i<=p.length/\m=p.length - i/\Bk h4 T ((List.range p.length).map λj=>if j<i then ω (η ⟨B j,0,ν⟩) (aq p (j+1)) (cx (aq p (j+1))) else ω ν 0 0) 173/\(∀j,j<i->Bk h4 (B j) (List.replicate (aq p (j+1)) (.bool false)) 4/\T<B j/\B j<h4.next)/\(∀j j',j<i->j' < i->B j=B j'->j=j')/\Nw h h4/\T<h4.next,p.length,
  ⟨0,λ_=>0,rfl,Nat.zero_le _,rfl,?_,λj hj=>absurd hj U,λj j' hj=>absurd hj U,k13,U⟩,?_⟩
 .have e:(List.range p.length).map (λj=>if j<0 then Value.slice (η ⟨(λ_=>0:Nat->Nat) j,0,ν⟩) (aq p (j+1)) (cx (aq p (j+1))) else ω ν 0 0)=List.replicate p.length (ω ν 0 0):=by
   simp[List.map_const']
  rw[e];exact g3
 rintro m x h4 ⟨i,Bf,rfl,hi,rfl,b4,r4,d4,k4,lt4⟩;refine⟨λhlt=>?_,λhge=>?_⟩
 .have hi':i<p.length:=U;have hm:=hmost (i+1) U U;refine⟨_,eD U,sV (O.nw k4) (k:=i+1) U U ⟨_,rfl,aq p (i+1),rfl,U,λh6 e6=>?_⟩⟩;obtain⟨k6,g6,z6⟩:=aj e6;rw[a9]at g6;obtain⟨h7,s7,B7,z7,o7⟩:=aD (v:=ω (η ⟨h4.next,0,ν⟩) (aq p (i+1)) (cx (aq p (i+1)))) (o:=0+i) (k6.bk lt4 b4) (by simp;omega) rfl;refine⟨i,rfl,hi',h7,s7,_,eD U,p.length - (i+1),U,i+1,upd Bf i h4.next,rfl,U,rfl,?_,λj hj=>?_,λj j' hj hj' he=>?_,⟨by have:=k4.next;omega,λz hz=>(o7 z U).trans ((k6.get z (by have:=k4.next;omega)).trans (k4.get z hz))⟩,U⟩
  .rw[Nat.zero_add]at B7;have e:((List.range p.length).map λj=>if j<i then Value.slice (η ⟨Bf j,0,ν⟩) (aq p (j+1)) (cx (aq p (j+1))) else ω ν 0 0).set i (ω (η ⟨h4.next,0,ν⟩) (aq p (i+1)) (cx (aq p (i+1))))=(List.range p.length).map λj=>if j<i+1 then Value.slice (η ⟨upd Bf i h4.next j,0,ν⟩) (aq p (j+1)) (cx (aq p (j+1))) else ω ν 0 0:=by
    apply List.ext_getElem?;intro j;rw[List.getElem?_set];by_cases e:i=j
    .subst e;simp[hi',upd]
    .rw[if_neg e];by_cases hj:j<p.length
     .have e':¬j=i:=λh=>e h.symm;by_cases h:j<i
      .simp[hj,h,upd,e',Nat.lt_succ_of_lt h]
      .have h'':¬j<i+1:=U;simp[hj,h,h'']
     .simp[hj]
   rw[<-e];exact B7
  .unfold upd;by_cases e:j=i
   .subst e;rw[if_pos rfl];exact⟨(o7 _ U).trans g6,U,U⟩
   .rw[if_neg e];obtain⟨r1,r2,r3⟩:=r4 j U;exact⟨(o7 _ U).trans ((k6.get _ r3).trans r1),r2,U⟩
  .unfold upd at he;by_cases e:j=i
   .by_cases e':j' = i
    .omega
    .rw[if_pos e,if_neg e']at he;have:=(r4 j' U).2.2;omega
   .by_cases e':j' = i
    .rw[if_neg e,if_pos e']at he;have:=(r4 j U).2.2;omega
    .rw[if_neg e,if_neg e']at he;exact d4 j j' U U he
 .obtain rfl:i=p.length:=U;have M4:lz h.next h4 T p.length Bf (λj=>List.replicate (aq p (j+1)) false):=by
   refine⟨?_,λj hj=>by rw[List.map_replicate];exact(r4 j hj).1,d4,λj hj=>by have:=(r4 j hj).2.1;omega,⟨U,λj hj=>by have:=(r4 j hj).2.1;omega⟩,lt4,λj hj=>(r4 j hj).2.2⟩;have e:jx p.length Bf (λj=>List.replicate (aq p (j+1)) false)=(List.range p.length).map λj=>if j<p.length then ω (η ⟨Bf j,0,ν⟩) (aq p (j+1)) (cx (aq p (j+1))) else ω ν 0 0:=by
    unfold jx;apply List.map_congr_left;intro j hj;have:j<p.length:=by simpa using hj
    simp[this]
   rw[e];exact b4
  have ok0:te N p xs 0 (λj=>List.replicate (aq p (j+1)) false):=⟨λj _=>by simp,λj c hj=>⟨λh=>(by rw[List.getElem?_replicate]at h;split at h <;>cases h),λ⟨_,q,x,h,_⟩=>absurd h U⟩⟩;have okn:(n:Int)=0->te N p xs n (λj=>List.replicate (aq p (j+1)) false):=λh0=>by
   obtain rfl:n=0:=U;exact ok0
  refine⟨λh0=>hK1 B T Bf _ h4 M4 (okn h0) k4,λhn0=>yh (O.nw k4) λA2 K2 h8 s8 k8=>⟨_,_,_,rfl,GQ (G.nw (k4.trans k8)) λA3 n3 K3 A4 n4 K4 A5 n5 K5 h9 t1 t2 t3 k9=>⟨_,_,_,_,_,_,_,_,_,rfl,λh10 e10=>?_⟩⟩⟩;obtain⟨h11,s11,k11,g11,z11⟩:=aC (vs:=[ω A3 n3 K3,ω A4 n4 K4,ω A5 n5 K5]) e10 rfl (eC rfl rfl rfl);have z8:=k8.next;have z9:=k9.next;have k411:=(k8.trans k9).trans k11;have k011:=k4.trans k411;have SB:∀z,(∃j,j<p.length/\z=Bf j)->T<z/\z<h4.next:=λz ⟨j,hj,e⟩=>by subst e;exact(r4 j hj).2
  refine⟨h11,s11,λm x h12=>∃(i:Nat) (R:Nat->List Bool),x=i/\i<=n/\m=n - i/\lz h.next h12 T p.length Bf R/\te N p xs i R/\Mt (λz=>∃j,j<p.length/\z=Bf j) h11 h12,n,⟨0,_,rfl,Nat.zero_le _,rfl,M4.nw k411,ok0,Mt.refl _ _⟩,?_⟩;rintro m x h12 ⟨i,R,rfl,hi2,rfl,M12,ok12,m12⟩;have k12:Nw h h12:=m12.is_nw k011 λz hz=>by have:=(SB z hz).1;omega
  have z12:=m12.next;refine⟨λhlt=>?_,λhge=>?_⟩
  .have hi':i<n:=U;obtain⟨b',o',x,hA',-,hlb,hx,hc,hn5⟩:=(hs.nw k12).chg (k:=i) hi';have hxo:=B.ok x (List.mem_of_getElem? hx);refine⟨i,rfl,b',o',hA',hi',_,_,_,_,_,hn5,λh13 e13=>?_⟩;obtain⟨h14,s14,k14,g14,z14⟩:=aC (vs:=dR x) e13 rfl (uX x);have M14:=M12.nw k14;have G14:=G.nw (k12.trans k14);have g11':∀{h'},Nw h12 h'->Bk h' h9.next [ω A3 n3 K3,ω A4 n4 K4,ω A5 n5 K5] 210:=λa=>a.bk U (m12.bk U (λhz=>by have:=(SB _ hz).2;omega) g11);have next:∀h' R',lz h.next h' T p.length Bf R'->te N p xs (i+1) R'->Mt (λz=>∃j,j<p.length/\z=Bf j) h12 h'->WR ((i:Int)+1) λx16=>RE (n - i) λm'=>∃(i:Nat) (R:Nat->List Bool),x16=i/\i<=n/\m' = n - i/\lz h.next h' T p.length Bf R/\te N p xs i R/\Mt (λz=>∃j,j<p.length/\z=Bf j) h11 h':=λh' R' a1 a2 a3=>
    ⟨_,eD U,n - (i+1),U,i+1,R',rfl,U,rfl,a1,a2,m12.then a3⟩
   obtain⟨kd,at_,ci,co,w⟩:=x;have s8':∀{h'},Nw h12 h'->Sa bh (λz=>h4.next<=z) h' A2 p.length K2 p:=λa=>((s8.nw (k9.trans k11)).off m12 λz hz e=>by have:=(SB z e).2;omega).nw a;refine⟨h14,s14,kd,aa g14 rfl,λc1=>⟨at_,aa g14 rfl,w,aa g14 rfl,?_⟩,λc1=>⟨λc2=>?_,λc2=>?_⟩⟩
   .subst c1;obtain⟨hw,⟨-,a1,a2,-,-⟩ | ⟨h1,-⟩⟩:=hxo
    case inr=>simp at h1
    simp only at a1 a2;obtain⟨a,rfl⟩:=Int.eq_ofNat_of_zero_le a1;have ha:a<N.na:=Int.ofNat_lt.1 a2;refine jf G14 ha ⟨_,rfl,aa g14 rfl,λheq=>next h14 R M14 (ok12.next hx (λ_ _=>rfl) λj c _ _=>⟨.inl,λhh=>hh.elim id λht=>?_⟩) (.of k14),λhne=>⟨_,aa g14 rfl,_,aa g14 rfl,pp G14 ha ⟨_,rfl,aa g14 rfl,zU G14 ha ⟨_,rfl,?_⟩⟩⟩⟩
    .rcases ht with⟨_,h2,_⟩ | ⟨h1,_⟩
     .exact absurd heq h2
     .simp at h1
    .refine Ez M14 hp (s8' k14) (λz hz j hj e=>by have:=(r4 j hj).2.2;omega) ok12.1 U (ab.fr_lt hok ha).1 (ab.to_lt hok ha).1 λh15 M15 m15=>⟨rfl,next h15 _ M15 (ok12.next hx (λj _=>pE _ _ _ _ _) λj c hj hc=>?_) ((Mt.of k14).then m15)⟩;rw[pF,ok12.1 j hj];constructor
     .rintro(h1 | ⟨h1,h2,h3⟩)
      .exact .inl h1
      .exact .inr (.inl ⟨rfl,hne,h2.symm,by rw[h2];exact h1.symm⟩)
     .rintro(h1 | ⟨-,-,h2,h3⟩ | ⟨h1,-⟩)
      .exact .inl h1
      .exact .inr ⟨h2.trans h3.symm,h2.symm,hc⟩
      .simp at h1
   .subst c2;obtain⟨hw,⟨h1,-⟩ | ⟨-,⟨a1,a2⟩,⟨a3,a4⟩,a5,a6⟩⟩:=hxo
    .simp at h1
    simp only at a1 a2 a3 a4 a5 a6;obtain⟨a,rfl⟩:=Int.eq_ofNat_of_zero_le a1;obtain⟨ti,rfl⟩:=Int.eq_ofNat_of_zero_le a3;obtain⟨to,rfl⟩:=Int.eq_ofNat_of_zero_le a5;have ha:a<N.ts.length:=Int.ofNat_lt.1 a2;have t3':Sa ep (λz=>h8.next<=z) h14 A5 n5 K5 N.ts:=((t3.nw k11).off m12 λz hz e=>by have:=(SB z e).2;omega).nw k14;have hn5':=t3.len;obtain⟨bt,ot,ins,outs,A',n',K',zs,hA5,-,-,ht,l0,l1,l2,sz⟩:=t3'.table (k:=a) U;have htb:N.tb a=(ins,outs,zs):=by simp[ab.tb,ht]
    have htk:=ab.tb_ok hok ha;rw[Int.toNat_natCast,htb]at a4 a6;rw[htb]at htk;have h16:=htk.ins_;have h17:=htk.outs_;simp only at a4 a6 h16 h17;refine⟨_,_,_,aa (g11' k14) rfl,_,aa g14 rfl,a,rfl,bt,ot,hA5,U,_,_,_,_,_,aK l0 l1 l2,_,aa g14 rfl,_,aa g14 rfl,_,aa g14 rfl,xV sz htk ti to U U λh19 k19=>⟨_,rfl,aa (k19.bk U g14) rfl,λheq=>next h19 R (M14.nw k19) (ok12.next hx (λ_ _=>rfl) λj c _ _=>⟨.inl,λhh=>hh.elim id λht=>?_⟩) (.of (k14.trans k19)),λhne=>⟨_,_,_,aa (g11' (k14.trans k19)) rfl,?_⟩⟩⟩
    .rcases ht with⟨h1,_⟩ | ⟨_,h2,_⟩
     .simp at h1
     .simp only[Int.toNat_natCast,htb]at h2;exact absurd heq h2
    .have k1219:=k14.trans k19;have z19:=k1219.next;have hv3:n3=N.nv:=t1.len.symm;have t1':Sa aN (λz=>h8.next<=z) h19 A3 n3 K3 N.vs:=((t1.nw k11).off m12 λz hz e=>by have:=(SB z e).2;omega).nw k1219;have g14':=k19.bk U g14;refine⟨λm x h20=>∃(v:Nat) (R':Nat->List Bool),x=v/\v<=n3/\m=n3 - v/\lz h.next h20 T p.length Bf R'/\(∀j,j<p.length->(R' j).length=(R j).length)/\(∀j c,j<p.length->c<aq p (j+1)->((R' j)[c]? = η true↔(R j)[c]? = η true\/∃u,u<v/\N.ty u=(a:Int)/\ap p (j+1) u=c))/\Mt (λz=>∃j,j<p.length/\z=Bf j) h19 h20,n3,⟨0,R,rfl,Nat.zero_le _,rfl,M14.nw k19,λ_ _=>rfl,λj c _ _=>⟨.inl,λhh=>hh.elim id λ⟨u,hu,_⟩=>absurd hu U⟩,Mt.refl _ _⟩,?_⟩;rintro m x h20 ⟨v,R',rfl,hv,rfl,M20,l20,q20,m20⟩;have z4a:h4.next<=h12.next:=U;have z1419:=k19.next;have g20:Bk h20 h12.next (dR (2,(a:Int),(ti:Int),(to:Int),w)) 175:=m20.bk (by have:=k19.next;omega) (λhz=>by have:=(SB _ hz).2;omega) g14';have z20:=m20.next;refine⟨λhlt2=>?_,λhge2=>?_⟩
     .have hv':v<n3:=U;obtain⟨bv,ov,x1,x2,x3,hA3,-,-,hvx,v0,v1,v2⟩:=(t1'.off m20 λz hz e=>by have:=(SB z e).2;omega).tri hv';refine⟨v,rfl,bv,ov,hA3,hv',_,_,_,wE v0 v1 v2,λh21 e21=>?_⟩;obtain⟨h22,s22,k22,g22,z22⟩:=aC (vs:=[ξ ψ x1,ξ ψ x2,ξ ψ x3]) e21 rfl (eC rfl rfl rfl);have hty:N.ty v=x3:=by simp[ab.ty,hvx]
      have nxt:∀h' R2,lz h.next h' T p.length Bf R2->(∀j,j<p.length->(R2 j).length=(R j).length)->(∀j c,j<p.length->c<aq p (j+1)->((R2 j)[c]? = η true↔(R' j)[c]? = η true\/(N.ty v=(a:Int)/\ap p (j+1) v=c)))->Mt (λz=>∃j,j<p.length/\z=Bf j) h20 h'->WR ((v:Int)+1) λx36=>RE (n3 - v) λm'=>∃(v:Nat) (R':Nat->List Bool),x36=v/\v<=n3/\m' = n3 - v/\lz h.next h' T p.length Bf R'/\(∀j,j<p.length->(R' j).length=(R j).length)/\(∀j c,j<p.length->c<aq p (j+1)->((R' j)[c]? = η true↔(R j)[c]? = η true\/∃u,u<v/\N.ty u=(a:Int)/\ap p (j+1) u=c))/\Mt (λz=>∃j,j<p.length/\z=Bf j) h19 h':=λh' R2 a1 a2 a3 a4=>
       ⟨_,eD U,n3 - (v+1),U,v+1,R2,rfl,U,rfl,a1,a2,λj c hj hc=>by
        rw[a3 j c hj hc,q20 j c hj hc];constructor
        .rintro((h1 | ⟨u,h1,h2⟩) | h1)
         .exact .inl h1
         .exact .inr ⟨u,U,h2⟩
         .exact .inr ⟨v,U,h1⟩
        .rintro(h1 | ⟨u,h1,h2⟩)
         .exact .inl (.inl h1)
         .by_cases e:u=v
          .subst e;exact .inr h2
          .exact .inl (.inr ⟨u,U,h2⟩),m20.then a4⟩
      refine⟨h22,s22,_,aa g22 rfl,_,aa (k22.bk U g20) rfl,λheq=>?_,λhne2=>nxt h22 R' (M20.nw k22) l20 (λj c _ _=>⟨.inl,λhh=>hh.elim id λht=>absurd (hty.symm.trans ht.1) hne2⟩) (.of k22)⟩;refine Ez (M20.nw k22) hp (((s8' k1219).off m20 λz hz e=>by have:=(SB z e).2;omega).nw k22) (λz (hz:h4.next<=z) j hj e=>by have:=(r4 j hj).2.2;omega) (λj hj=>(l20 j hj).trans (ok12.1 j hj)) U (a:=v) (b:=v) U U λh23 M23 m23=>⟨rfl,nxt h23 _ M23 (λj hj=>(pE _ _ _ _ _).trans (l20 j hj)) (λj c hj hc=>?_) ((Mt.of k22).then m23)⟩;rw[pF,l20 j hj,ok12.1 j hj];constructor
      .rintro(h1 | ⟨-,h2,-⟩)
       .exact .inl h1
       .exact .inr ⟨hty.trans heq,h2.symm⟩
      .rintro(h1 | ⟨-,h2⟩)
       .exact .inl h1
       .exact .inr ⟨rfl,h2.symm,hc⟩
     .obtain rfl:v=n3:=U;refine next h20 R' M20 (ok12.next hx l20 λj c hj hc=>?_) ((Mt.of k1219).then m20)
      rw[q20 j c hj hc];constructor
      .rintro(h1 | ⟨u,h1,h2,h3⟩)
       .exact .inl h1
       .refine .inr (.inr ⟨rfl,?_,u,U,h2,h3⟩);simp only[Int.toNat_natCast,htb];exact hne
      .rintro(h1 | ⟨h1,-⟩ | ⟨-,-,u,h1,h2,h3⟩)
       .exact .inl h1
       .simp at h1
       .exact .inr ⟨u,U,h2,h3⟩
   .exfalso;rcases hxo.is with⟨h1,-⟩ | ⟨h1,-⟩
    .exact c1 h1
    .exact c2 h1
  .obtain rfl:i=n:=U;exact hK1 B T Bf R h12 M12 ok12 k12
end
end Eva
end
section
open Go Go.RowKit
namespace Eva
section
variable {h h':AH}{F Fa Fo:Nat->Prop}{Q:Value->AH->Prop}{A:Option Addr}{n K g o C:Nat}{N M:ab}{p:List (List Int)}{xs:List dV}{costs:List Int}
theorem bW.gatesL (S:bW N M) (k:Nat):M.gatesL p k=N.gatesL p k:=by
 unfold ab.gatesL
 congr 1
 funext c
 rw[S.ins,S.outs]
theorem bW.startsL (S:bW N M) (k:Nat):M.startsL p k=N.startsL p k:=by
 unfold ab.startsL
 congr 1
 funext c
 rw[S.start]
theorem eL.shp (O:eL h Fo o N p) (S:bW N M) (hok:M.Ok):eL h Fo o M p:=by
 obtain⟨w,a,⟨b1,b2,b3,b4,b5⟩,⟨c1,c2,c3,c4,c5⟩,⟨d1,d2,d3,d4,d5⟩,⟨e1,e2,e3,e4,e5⟩,q1,q2,q3,q4,q5⟩:=O;have hg:((List.range p.length).map λj=>M.gatesL p (j+1))=(List.range p.length).map λj=>N.gatesL p (j+1):=by
  congr 1;funext j;exact bW.gatesL S _
 have hs:((List.range p.length).map λj=>M.startsL p (j+1))=(List.range p.length).map λj=>N.startsL p (j+1):=by
  congr 1;funext j;exact bW.startsL S _
 have hf:((List.range M.na).map λa=>((M.fr a:Nat):Int))=(List.range N.na).map λa=>((N.fr a:Nat):Int):=by
  rw[S.na];congr 1;funext j;rw[S.fr]
 have ht:((List.range M.na).map λa=>((M.to a:Nat):Int))=(List.range N.na).map λa=>((N.to a:Nat):Int):=by
  rw[S.na];congr 1;funext j;rw[S.to]
 exact⟨w,a,⟨b1,b2,b3,b4,by rw[hf];exact b5⟩,⟨c1,c2,c3,c4,by rw[ht];exact c5⟩,⟨d1,d2,d3,d4,by rw[hg];exact d5⟩,⟨e1,e2,e3,e4,by rw[hs];exact e5⟩,by rw[S.size];exact q1,by rw[S.nv];exact q2,by rw[S.size];exact q3,hok,by rw[S.nv,S.na];exact q5⟩
theorem DY (O:eL h F o N p){k c:Nat}(hk1:1<=k) (hk:k<=p.length) (hc:c<aq p k) (hz:(N.ins p k c).length=0\/(N.outs p k c).length=0)
  (hK:∀h',Nw h h'->Q (ξ ψ (-1)) h'):WC Tryz.prog 41 [μ (η ⟨o,0,ν⟩),ξ ψ k,ξ ψ c,ξ ψ 0,ξ ψ 0] h Q:=by
 obtain⟨k,rfl⟩:∃k',k=k' + 1:=⟨k - 1,U⟩;have hp6:=O.hp.few;obtain⟨b1,o1,n1,K1,b2,o2,K2,A3,K3,A4,K4,c3,hkn,l1,e2,l2,e3,e4,s3,s4⟩:=O.gate_ (k:=k) U hc;obtain⟨ni,hni⟩:∃ni,(N.ins p (k+1) c).length=ni:=⟨_,rfl⟩;obtain⟨no,hno⟩:∃no,(N.outs p (k+1) c).length=no:=⟨_,rfl⟩;rw[hni]at e3 s3 hz;rw[hno]at e4 s4 hz;refine cB (zv O hk1 hk hc ⟨_,rfl,λ_=>?_,λh=>Bool.noConfusion h⟩);refine⟨_,_,rfl,_,_,_,c3,_,af U U,k,U,_,_,rfl,hkn,_,_,_,e2,c,rfl,_,_,rfl,hc,_,_,_,_,_,_,qp e3 e4,λh2 e7=>?_⟩;obtain⟨h3,hs3,k3,g3,z3⟩:=aC (vs:=[ω A3 ni K3,ω A4 no K4]) e7 rfl (dH rfl rfl);have y0:ldC h3 h.next 0=η (ω A3 ni K3):=aa g3 rfl;have y1:ldC h3 h.next 1=η (ω A4 no K4):=aa g3 rfl;exact⟨h3,hs3,λh=>absurd h U,λ_=>⟨_,_,_,y0,λh=>hK _ k3,λh0=>⟨λh=>absurd h U,λ_=>⟨_,_,_,y1,λh=>hK _ k3,λh1=>absurd hz U⟩⟩⟩⟩
structure iP (W:Nat->Prop) (h0 h:AH) (g o C:Nat) (costs:List Int) (N:ab) (p:List (List Int)):Prop where
 gr:∃Fa Ft F,qq h Fa Ft F g N/\(∀z,Fa z\/Ft z\/F z->h0.next<=z)/\∃Fo,eL h Fo o N p/\(∀z,Fo z->h0.next<=z/\¬Fa z/\¬Ft z)/\¬Fa C/\¬Ft C/\∀z,Fa z\/Ft z\/F z\/Fo z\/z=C->W z
 cs:Bk h C (costs.map (Value.int .i64)) 2
 cp:h0.next<=C/\C<h.next
 ok:bG N p costs
 nn:∀x∈costs,0<=x
theorem lh.w {h0 h:AH}(R:lh h0 h g o C costs N p):iP (λz=>h0.next<=z) h0 h g o C costs N p:=by
 obtain⟨⟨Fa,Ft,F,X,lo,Fo,O,loo,n1,n2⟩,cs,cp,co,nn⟩:=R;refine⟨⟨Fa,Ft,F,X,lo,Fo,O,loo,n1,n2,λz hz=>?_⟩,cs,cp,co,nn⟩;rcases hz with h | h | h | h | h
 .exact lo z (.inl h)
 .exact lo z (.inr (.inl h))
 .exact lo z (.inr (.inr h))
 .exact(loo z h).1
 .rw[h];exact cp.1
theorem iP.a {W:Nat->Prop}{h0 h:AH}(R:iP W h0 h g o C costs N p):lh h0 h g o C costs N p:=by
 obtain⟨⟨Fa,Ft,F,X,lo,Fo,O,loo,n1,n2,-⟩,cs,cp,co,nn⟩:=R;exact⟨⟨Fa,Ft,F,X,lo,Fo,O,loo,n1,n2⟩,cs,cp,co,nn⟩
theorem iP.nw {W:Nat->Prop}{h0 h h':AH}(R:iP W h0 h g o C costs N p) (a:Nw h h'):iP W h0 h' g o C costs N p:=by
 obtain⟨⟨Fa,Ft,F,X,lo,Fo,O,loo,nC⟩,cs,cp,co,nn⟩:=R;have:=a.next;exact⟨⟨Fa,Ft,F,X.nw a,lo,Fo,O.nw a,loo,nC⟩,a.bk cp.2 cs,⟨cp.1,U⟩,co,nn⟩
theorem iP.mono {W W':Nat->Prop}{h0 h:AH}(R:iP W h0 h g o C costs N p) (hW:∀z,W z->W' z):iP W' h0 h g o C costs N p:=by
 obtain⟨⟨Fa,Ft,F,X,lo,Fo,O,loo,n1,n2,n3⟩,cs,cp,co,nn⟩:=R;exact⟨⟨Fa,Ft,F,X,lo,Fo,O,loo,n1,n2,λz hz=>hW z (n3 z hz)⟩,cs,cp,co,nn⟩
theorem iP.lt {W:Nat->Prop}{h0 h:AH}(R:iP W h0 h g o C costs N p):iP (λz=>W z/\z<h.next) h0 h g o C costs N p:=by
 obtain⟨⟨Fa,Ft,F,X,lo,Fo,O,loo,n1,n2,n3⟩,cs,cp,co,nn⟩:=R;refine⟨⟨_,_,_,X.lt,λz hz=>lo z ?_,λz=>Fo z/\z<h.next,O.mono λz hz hl=>⟨hz,hl⟩,λz hz=>⟨(loo z hz.1).1,λh=>(loo z hz.1).2.1 h.1,λh=>(loo z hz.1).2.2 h.1⟩,λh=>n1 h.1,λh=>n2 h.1,λz hz=>?_⟩,cs,cp,co,nn⟩
 .rcases hz with h | h | h
  .exact .inl h.1
  .exact .inr (.inl h.1)
  .exact .inr (.inr h.1)
 .rcases hz with h | h | h | h | h
  .exact⟨n3 z (.inl h.1),h.2⟩
  .exact⟨n3 z (.inr (.inl h.1)),h.2⟩
  .exact⟨n3 z (.inr (.inr (.inl h.1))),h.2⟩
  .exact⟨n3 z (.inr (.inr (.inr (.inl h.1)))),h.2⟩
  .exact⟨n3 z (.inr (.inr (.inr (.inr h)))),by rw[h];exact cp.2⟩
theorem iP.off {W S:Nat->Prop}{h0 h h':AH}(R:iP W h0 h g o C costs N p) (m:Mt S h h') (hS:∀z,W z->¬S z):iP W h0 h' g o C costs N p:=by
 obtain⟨⟨Fa,Ft,F,X,lo,Fo,O,loo,n1,n2,n3⟩,cs,cp,co,nn⟩:=R;have:=m.next;exact⟨⟨Fa,Ft,F,X.keep (λz hz hl=>m.get z hl (hS z (n3 z (hz.elim .inl λh=>.inr (h.elim .inl λh=>.inr (.inl h)))))) m.next,lo,Fo,O.off m λz hz=>hS z (n3 z (.inr (.inr (.inr (.inl hz))))),loo,n1,n2,n3⟩,m.bk cp.2 (hS _ (n3 _ (.inr (.inr (.inr (.inr rfl)))))) cs,⟨cp.1,U⟩,co,nn⟩
theorem Cp {W:Nat->Prop}{h0 hb:AH}(R:iP W h0 hb g o C costs N p) (a:Nw hb h) (hna3:N.na<=300) (hsz:N.size p<1000000){Fl:Nat->Prop}(hs:Sz dQ Fl h A n K xs) (hFl:∀z,Fl z->¬W z\/hb.next<=z)
  (hK1:bI N xs->∀C' costs' cnt h',iP (λz=>(W z/\z<hb.next)\/h.next<=z) h0 h' g o C' costs' (N.doL xs) p->Mt (λz=>W z/\z<hb.next) h h'->Q (.tuple #[ω (η ⟨C',0,ν⟩) (N.size p) (cx (N.size p)),ξ ψ cnt,.nilIface]) h')
  (hK2:¬bI N xs->∀t u h',Nw h h'->Q (.tuple #[ω ν 0 0,ξ ψ 0,.iface t u]) h') :
  WC Tryz.prog 27 [μ (η ⟨g,0,ν⟩),μ (η ⟨o,0,ν⟩),ω (η ⟨C,0,ν⟩) (N.size p) (cx (N.size p)),ω A n K] h Q:=by
 obtain⟨⟨Fa0,Ft0,F0,X0,lo0,Fo0,O0,loo,nC1,nC2,inW⟩,cs,cp,co,nn⟩:=R;have nC:¬Fa0 C/\¬Ft0 C:=⟨nC1,nC2⟩;have X:=(X0.lt).nw a;have O:=((O0.mono (Fo':=λz=>Fo0 z/\z<hb.next) λz hz hl=>⟨hz,hl⟩).nw a);have az:=a.next;have cs1:=a.bk cp.2 cs;have hp:=O.hp;have hnp:=hp.few;have hok:=O.ok;have hl:=hs.len;obtain⟨sz,hszE⟩:∃sz,N.size p=sz:=⟨_,rfl⟩;have hcl:costs.length=sz:=by rw[<-hszE];exact co.1
 rw[hszE]at hsz hK1⊢;refine yZ (xX O ⟨_,rfl,λheq=>?_,λhne=>absurd (by rw[hszE]) hne⟩);refine Co X.gr O hs (λB T Bf Rm h2 M ok2 k2=>⟨_,_,_,ν,rfl,λ_=>?_,λt u h=>by cases h⟩) λnB t u h2 k2=>⟨_,_,_,η (t,u),rfl,(λh=>by cases h),λt' u' e=>by cases e;exact hK2 nB t u h2 k2⟩;have hFl':∀z,Fl z->¬(Fa0 z/\z<hb.next)/\¬(Ft0 z/\z<hb.next):=λz hz=>by
  have h1:=hFl z hz;exact⟨λh=>h1.elim (λh2=>h2 (inW z (.inl h.1))) (λh2=>U),λh=>h1.elim (λh2=>h2 (inW z (.inr (.inl h.1)))) (λh2=>U)⟩
 refine FG (X.nw k2) (hs.nw k2) hFl' B λh3 T3=>⟨ν,rfl,λ_=>⟨U,λh4 e4=>?_⟩,λt u h=>by cases h⟩;obtain⟨⟨Fa3,Ft3,F3,X3,c1,c2⟩,m3⟩:=T3;obtain⟨M1,hM1⟩:∃M1,N.doL xs=M1:=⟨_,rfl⟩;have S:bW N M1:=hM1 ▸ ab.doL_shp xs;have hok1:M1.Ok:=hM1 ▸ ab.doL_ok hok xs B.ok;rw[hM1]at X3 hK1;have z2:=k2.next;have z3:=m3.next;have M3:lz h.next h3 T p.length Bf Rm:=M.off m3 λz hz ht=>by
  have:z<hb.next:=hz.elim (λh=>h.2) λh=>h.2;rcases ht with rfl | ⟨i,hi,rfl⟩
  .have:=M.lo.1;omega
  .have:=M.lo.2 i hi;omega
 have O3:eL h3 (λz=>Fo0 z/\z<hb.next) o M1 p:=eL.shp ((O.nw k2).off m3 λz hz ht=>ht.elim (λh=>(loo z hz.1).2.1 h.1) λh=>(loo z hz.1).2.2 h.1) S hok1;have cs3:Bk h3 C (costs.map (Value.int .i64)) 2:=m3.bk U (λht=>ht.elim (λh=>nC.1 h.1) λh=>nC.2 h.1) (k2.bk U cs1);have X3':=X3.lt;obtain⟨k4,g4,z4⟩:=aj e4;obtain⟨C',hC'⟩:∃C',h3.next=C':=⟨_,rfl⟩;rw[hC']at g4 z4;rw[a9]at g4;have g4':Bk h4 C' ((List.replicate sz (0:Int)).map (Value.int .i64)) 2:=by rw[List.map_replicate];exact g4
 rw[hC'];have s4:Sa cI (λz=>z=C) h4 (η ⟨C,0,ν⟩) sz (cx sz) costs:=(Sa.of_ints (F:=λz=>z=C) cs3 hcl rfl U).nw k4;obtain⟨h5,y1,y2,y3,y4⟩:=Ce (n:=sz) (lo:=0) (x:=0) (K:=cx sz) g4' (by simp) s4 U (λ_=>rfl);have e5:eh (List.replicate sz (0:Int)) costs 0=costs:=by
  unfold eh;simp[hcl]
 rw[e5]at y2;have k35:Nw h3 h5:=⟨U,λz hz=>(y4 z U).trans (k4.get z hz)⟩;have unt:∀k c,1<=k->k<=p.length->c<aq p k->(¬∃q x,q<n/\xs[q]? = η x/\Ds N p k c x)->bu M1 p costs k c:=λk c h1 h2 h3 hno=>by
  refine bu.same S hok ?_ (co.2 k c h1 h2 h3);rw[<-hM1];refine wA hok xs B.ok λx hx ht=>hno ?_;obtain⟨q,hq⟩:=List.getElem?_of_mem hx;exact⟨q,x,by have:=(List.getElem?_eq_some_iff.1 hq).1;omega,hq,ht⟩
 refine⟨_,h5,y1,λm x3 x4 h6=>∃(i:Nat) (cs:List Int),x4=i/\i<=p.length/\m=p.length - i/\cs.length=sz/\Bk h6 C' (cs.map (Value.int .i64)) 2/\(∀k c,1<=k->k<=p.length->c<aq p k->(k<=i\/¬∃q x,q<n/\xs[q]? = η x/\Ds N p k c x)->bu M1 p cs k c)/\(∀x∈cs,0<=x)/\Nw h3 h6/\C' < h6.next,p.length,⟨0,costs,rfl,Nat.zero_le _,rfl,hcl,y2,λk c h1 h2 h3 h4=>unt k c h1 h2 h3 (h4.elim (λh=>U) id),nn,k35,U⟩,?_⟩;rintro m x3 x4 h6 ⟨i,cs,rfl,hi,rfl,l6,b6,c6,n6,k6,lt6⟩;refine⟨λhlt=>?_,λhge=>?_⟩
 .have hi':i<p.length:=U;refine⟨i,rfl,T,0,rfl,hi',_,_,_,(M3.nw k6).at_ hi',?_⟩;refine⟨λm x5 x6 h7=>∃(c:Nat) (cs:List Int),x6=c/\c<=aq p (i+1)/\m=aq p (i+1) - c/\cs.length=sz/\Bk h7 C' (cs.map (Value.int .i64)) 2/\(∀k c',1<=k->k<=p.length->c' < aq p k->(k<=i\/(k=i+1/\c' < c)\/¬∃q x,q<n/\xs[q]? = η x/\Ds N p k c' x)->bu M1 p cs k c')/\(∀x∈cs,0<=x)/\Nw h3 h7/\C' < h7.next,aq p (i+1),⟨0,cs,rfl,Nat.zero_le _,rfl,l6,b6,λk c' h1 h2 h3 h4=>c6 k c' h1 h2 h3 (h4.elim .inl λh4=>h4.elim (λh=>absurd h.2 U) .inr),n6,k6,lt6⟩,?_⟩;rintro m x5 x6 h7 ⟨c,cs,rfl,hc,rfl,l7,b7,c7,n7,k7,lt7⟩;have hmost:aq p (i+1)<=N.nv:=by
   obtain⟨row,hr⟩:∃row,p[i+1 - 1]? = η row:=⟨_,List.getElem?_eq_getElem U⟩;have h2:=gu hr;have h3:=dg (row:=row) (n:=(N.nv:Int)) U (λx hx=>(hp.inr _ (List.mem_of_getElem? hr) x hx).2);omega
  have hnv:=O.nfew.1;have hlen:=ok2.1 i hi';refine⟨λhlt2=>?_,λhge2=>?_⟩
  .have hc':c<aq p (i+1):=by rw[hlen]at hlt2;omega
   have next:∀h' cs' (x:Int),cs'.length=sz->Bk h' C' (cs'.map (Value.int .i64)) 2->(∀k c',1<=k->k<=p.length->c' < aq p k->(k<=i\/(k=i+1/\c' < c+1)\/¬∃q x,q<n/\xs[q]? = η x/\Ds N p k c' x)->bu M1 p cs' k c')->(∀x∈cs',0<=x)->Nw h3 h'->C' < h'.next->WR ((c:Int)+1) λx12=>RE (aq p (i+1) - c) λm'=>∃(c:Nat) (cs:List Int),x12=c/\c<=aq p (i+1)/\m' = aq p (i+1) - c/\cs.length=sz/\Bk h' C' (cs.map (Value.int .i64)) 2/\(∀k c',1<=k->k<=p.length->c' < aq p k->(k<=i\/(k=i+1/\c' < c)\/¬∃q x,q<n/\xs[q]? = η x/\Ds N p k c' x)->bu M1 p cs k c')/\(∀x∈cs,0<=x)/\Nw h3 h'/\C' < h'.next:=λh' cs' x a1 a2 a3 a4 a5 a6=>
    ⟨_,eD U,aq p (i+1) - (c+1),U,c+1,cs',rfl,U,rfl,a1,a2,a3,a4,a5,a6⟩
   obtain⟨b,hb⟩:∃b,(Rm i)[c]? = η b:=⟨_,List.getElem?_eq_getElem (by rw[hlen];exact hc')⟩;have hld:ldC h7 (Bf i) (0+c)=η (.bool b):=by
    refine aa ((M3.nw k7).row i hi') ?_;rw[Nat.zero_add,List.getElem?_map,hb];rfl
   refine⟨c,rfl,Bf i,0,rfl,by rw[hlen];exact hc',b,hld,λhbt=>?_,λhbf=>?_⟩
   .have w1:IntKind.i64.wrap ((i:Int)+1)=((i+1:Nat):Int):=eD U;have s7:Sa cI (λz=>z=C') h7 (η ⟨C',0,ν⟩) sz (cx sz) cs:=Sa.of_ints (F:=λz=>z=C') b7 l7 rfl lt7;have G7:=(X3'.nw k7).gr;have O7:=O3.nw k7;have hszM:M1.size p=sz:=by rw[S.size];exact hszE
    have naM:M1.na<=300:=by rw[S.na];exact hna3
    refine⟨_,rfl,_,w1,GM G7 naM O7 (k:=i+1) U U hc' s7 U U n7 (λh2 d hd=>c7 (i+1 - 1) d U U hd (.inl U)) λA5 n5 K5 l h8 s8 hone hlnn k8=>⟨_,_,_,rfl,_,w1,?_⟩⟩;have O8:=O7.nw k8;have b8:=k8.bk lt7 b7;have z8:=k8.next;by_cases hz:(M1.ins p (i+1) c).length=0\/(M1.outs p (i+1) c).length=0
    .refine DY O8 U U hc' hz λh9 k9=>⟨_,rfl,λh=>absurd h U,λ_=>next h9 cs (x5+1) l7 (k9.bk U b8) (λk c' h1 h2 h3 h4=>?_) n7 ((k7.trans k8).trans k9) (by have:=k9.next;omega)⟩;rcases h4 with h4 | ⟨rfl,h4⟩ | h4
     .exact c7 k c' h1 h2 h3 (.inl h4)
     .by_cases e:c' = c
      .subst e;intro i2 j2 a2 b2 g1 g2;have h5:=(List.getElem?_eq_some_iff.1 g1).1;have h6:=(List.getElem?_eq_some_iff.1 g2).1;omega
      .exact c7 _ c' h1 h2 h3 (.inr (.inl ⟨rfl,U⟩))
     .exact c7 k c' h1 h2 h3 (.inr (.inr h4))
    .refine Hf O8 U U hc' (i:=0) (j:=0) U U λh9 k9=>⟨_,rfl,λ_=>?_,λh=>absurd h U⟩;have hse:=ab.start_end (N:=M1) (k:=i+1) U U hc';obtain⟨st,hst⟩:∃st,M1.start p (i+1) c=st:=⟨_,rfl⟩;have hn5:n5=M1.sz p (i+1) c:=by rw[<-s8.len];exact hone.1
     rw[hst,hszM]at hse;obtain⟨xx,KK,hxx,hsl⟩:=yg (P:=Tryz.prog) (C:=C') (n:=sz) (lo:=st) zG U;have e0:M1.start p (i+1) c+(0*(M1.outs p (i+1) c).length+0)=st:=by rw[hst];omega
     have b9:=k9.bk U b8;obtain⟨h10,q1,q2,q3,q4⟩:=Ce (K:=KK) b9 l7 (s8.nw k9) (lo:=st) (x:=xx) U hxx;have z9:=k9.next;refine⟨λ_=>⟨st,by rw[e0],_,_,_,hsl,_,h10,q1,next h10 (eh cs l st) (x5+1) ?_ q2 (λk c' h1 h2 h3 h4=>?_) (uS n7 hlnn) ⟨by have:=k7.next;omega,λz hz=>(q4 z U).trans (((k7.trans k8).trans k9).get z hz)⟩ U⟩,λh=>absurd h (by rw[e0];omega)⟩
     .rw[qU (by rw[s8.len];omega)];exact l7
     .by_cases e:i+1=k/\c=c'
      .obtain⟨rfl,rfl⟩:=e;rw[<-hst];exact bu.put U U U hc' hone
      .rw[<-hst];refine bu.putO U U U hc' hone.1 h1 h2 h3 e (c7 k c' h1 h2 h3 ?_);rcases h4 with h4 | h4 | h4
       .exact .inl h4
       .exact .inr (.inl ⟨h4.1,U⟩)
       .exact .inr (.inr h4)
   .subst hbf;refine next h7 cs x5 l7 b7 (λk c' h1 h2 h3 h4=>c7 k c' h1 h2 h3 ?_) n7 k7 lt7
    rcases h4 with h4 | ⟨rfl,h4⟩ | h4
    .exact .inl h4
    .by_cases e:c' = c
     .subst e;refine .inr (.inr λ⟨q,x,h5,h6,h7⟩=>?_);have:=(ok2.2 i c' hi').2 ⟨hc',q,x,h5,h6,h7⟩;rw[hb]at this;cases this
     .exact .inr (.inl ⟨rfl,U⟩)
    .exact .inr (.inr h4)
  .have hcm:c=aq p (i+1):=by rw[hlen]at hge2;omega
   refine⟨_,eD U,p.length - (i+1),U,i+1,cs,rfl,U,rfl,l7,b7,λk c' h1 h2 h3 h4=>c7 k c' h1 h2 h3 ?_,n7,k7,lt7⟩;rcases h4 with h4 | h4
   .by_cases e:k=i+1
    .subst e;exact .inr (.inl ⟨rfl,U⟩)
    .exact .inl U
   .exact .inr (.inr h4)
 .obtain rfl:i=p.length:=U;have z6:=k6.next;refine hK1 B C' cs x3 h6 ⟨⟨_,_,_,X3'.nw k6,λz hz=>?_,λz=>Fo0 z/\z<hb.next,O3.nw k6,λz hz=>⟨(loo z hz.1).1,λhf=>?_,λhf=>?_⟩,λhf=>by have:=hf.2;omega,λhf=>by have:=hf.2;omega,λz hz=>?_⟩,b6,⟨U,lt6⟩,⟨by rw[S.size,hszE];exact l6,λk c h1 h2 h3=>c6 k c h1 h2 h3 (.inl h2)⟩,n6⟩ ?_
  .rcases hz with hz | hz | hz
   .rcases c1 z (.inl hz.1) with h | h | h
    .exact lo0 z (.inl h.1)
    .exact lo0 z (.inr (.inl h.1))
    .omega
   .rcases c1 z (.inr hz.1) with h | h | h
    .exact lo0 z (.inl h.1)
    .exact lo0 z (.inr (.inl h.1))
    .omega
   .exact lo0 z (.inr (.inr (c2 z hz.1).1))
  .rcases c1 z (.inl hf.1) with h | h | h
   .exact(loo z hz.1).2.1 h.1
   .exact(loo z hz.1).2.2 h.1
   .have:=hz.2;omega
  .rcases c1 z (.inr hf.1) with h | h | h
   .exact(loo z hz.1).2.1 h.1
   .exact(loo z hz.1).2.2 h.1
   .have:=hz.2;omega
  .have hz':Fa3 z\/Ft3 z->(W z/\z<hb.next)\/h.next<=z:=λhz=>by
    rcases c1 z hz with h | h | h
    .exact .inl ⟨inW z (.inl h.1),h.2⟩
    .exact .inl ⟨inW z (.inr (.inl h.1)),h.2⟩
    .exact .inr U
   rcases hz with h | h | h | h | h
   .exact hz' (.inl h.1)
   .exact hz' (.inr h.1)
   .exact .inl ⟨inW z (.inr (.inr (.inl (c2 z h.1).1))),(c2 z h.1).2⟩
   .exact .inl ⟨inW z (.inr (.inr (.inr (.inl h.1)))),h.2⟩
   .exact .inr U
  .refine((Mt.of k2).trans m3 λz hz hl=>hz) |>.nw k6 |>.mono λz hz _=>?_;rcases hz with h | h
   .exact⟨inW z (.inl h.1),h.2⟩
   .exact⟨inW z (.inr (.inl h.1)),h.2⟩
theorem DZ {h0 hb:AH}(R:lh h0 hb g o C costs N p) (a:Nw hb h) (hna3:N.na<=300) (hsz:N.size p<1000000){Fl:Nat->Prop}(hs:Sz dQ Fl h A n K xs) (hFl:∀z,Fl z->z<h0.next\/hb.next<=z)
  (hK1:bI N xs->∀C' costs' cnt h',lh h0 h' g o C' costs' (N.doL xs) p->Mt (λz=>h0.next<=z/\z<hb.next) h h'->Q (.tuple #[ω (η ⟨C',0,ν⟩) (N.size p) (cx (N.size p)),ξ ψ cnt,.nilIface]) h')
  (hK2:¬bI N xs->∀t u h',Nw h h'->Q (.tuple #[ω ν 0 0,ξ ψ 0,.iface t u]) h') :
  WC Tryz.prog 27 [μ (η ⟨g,0,ν⟩),μ (η ⟨o,0,ν⟩),ω (η ⟨C,0,ν⟩) (N.size p) (cx (N.size p)),ω A n K] h Q:=by
 exact Cp R.w a hna3 hsz hs (λz hz=>(hFl z hz).imp (λh=>U) id) (λB C' costs' cnt h' R' m=>hK1 B C' costs' cnt h' R'.a (m.mono λz hz _=>hz)) hK2
end
end Eva
end
section
open Go Go.RowKit
open Classical in
noncomputable def ab.step (N:ab) (l:List dV):ab:=if bI N l then N.doL l else N
noncomputable def ab.behind (N:ab) (ls:List (List dV)):ab:=ls.foldl ab.step N
theorem ab.step_shp (N:ab) (l:List dV):bW N (N.step l):=by
 unfold ab.step
 split
 .exact ab.doL_shp l
 .exact bW.refl N
theorem ab.step_ok {N:ab}(hok:N.Ok) (l:List dV):(N.step l).Ok:=by
 unfold ab.step
 split
 .rename_i B;exact ab.doL_ok hok l B.ok
 .exact hok
theorem ab.behind_snoc (N:ab) (ls:List (List dV)) (l:List dV):N.behind (ls ++ [l])=(N.behind ls).step l:=by simp[ab.behind,List.foldl_append]
theorem ab.behind_shp:∀(ls:List (List dV)) (N:ab),bW N (N.behind ls)
 | [],N=>bW.refl N
 | l :: ls,N=>(ab.step_shp N l).trans (ab.behind_shp ls (N.step l))
theorem ab.behind_ok:∀(ls:List (List dV)){N:ab},N.Ok->(N.behind ls).Ok
 | [],N,h=>h
 | l :: ls,N,h=>ab.behind_ok ls (ab.step_ok h l)
namespace Eva
theorem iOq:uH Tryz.prog 175 5 40=true:=by kernel_rfl
section
variable {h h':AH}{F G:Nat->Prop}{Q:Value->AH->Prop}{A Av Aa At Ap Al:Option Addr}{n K nv Kv na Ka nt Kt np Kp nl Kl g o C:Nat}{N:ab}{p:List (List Int)}{xs:List dV}{ls:List (List dV)}{costs:List Int}
theorem lh.lower {h0 h2:AH}(R:lh h2 h' g o C costs N p) (hn:h0.next<=h2.next):lh h0 h' g o C costs N p:=by
 obtain⟨⟨Fa,Ft,F',X,lo,Fo,O,lo2,nC⟩,cs,cp,co,nn⟩:=R;exact⟨⟨Fa,Ft,F',X,λz hz=>by have:=lo z hz;omega,Fo,O,λz hz=>⟨by have:=(lo2 z hz).1;omega,(lo2 z hz).2⟩,nC⟩,cs,⟨U,cp.2⟩,co,nn⟩
theorem GT (hs:Sz dQ F h A n K xs) (hn:n<=1000) (hK:∀A' K' h',Sa dQ (λz=>h.next<=z) h' A' n K' xs->Nw h h'->Q (ω A' n K') h') :
  WC Tryz.prog 28 [ω A n K] h Q:=by
 have hl:=hs.len;refine wo ⟨λm A' n' K' x h1=>∃i:Nat,x=i/\i<=n/\n' = i/\m=n - i/\al dQ h1 (ah A') 175 A' i K' (xs.take i)/\(∀z,ah A' z->h.next<=z)/\Nw h h1,n,⟨0,rfl,Nat.zero_le _,rfl,rfl,al.nil _ _ _ _,λz hz=>hz.elim,Nw.refl _⟩,?_⟩;rintro m A' n' K' x h1 ⟨i,rfl,hi,rfl,rfl,o1,lo1,k1⟩;refine⟨λhlt=>?_,λhge=>?_⟩
 .obtain⟨b,of,x,hA,-,hlb,hx,hc,-⟩:=(hs.nw k1).chg (k:=n') U;have c:=λj u (hj:(dR x)[j]? = η u)=>hc j u hj;refine⟨n',rfl,b,of,hA,U,_,c 0 _ rfl,U,_,c 1 _ rfl,U,_,c 2 _ rfl,U,_,c 3 _ rfl,U,_,c 4 _ rfl,λh2 e2=>?_⟩;obtain⟨k2,g2,z2⟩:=aj e2;have hz:Sz dQ (λz=>z=h1.next) h2 (η ⟨h1.next,0,ν⟩) 1 2 [x]:=Sz.one (cells:=dR x) g2 rfl U rfl rfl;obtain⟨A3,K3,h3,y1,y2,y3,y4⟩:=aV Cl iOq (o1.nw k2) hz U U;have z1:=k1.next;refine⟨A3,_,K3,h3,y1,_,eD U,n - (n' + 1),U,n' + 1,rfl,U,rfl,rfl,?_,λz hz=>?_,?_⟩
  .rw[List.take_add_one,hx];exact y2
  .rcases y4 z hz with h | h
   .exact lo1 z h
   .omega
  .exact y3.is_nw (k1.trans k2) λz hz=>lo1 z hz
 .obtain rfl:n' = n:=U;have e:xs.take n' = xs:=List.take_of_length_le U;rw[e]at o1;exact hK _ _ _ (o1.sa.mono λz hz _=>lo1 z hz) k1
theorem Cq {h0 hb:AH}{sz:Nat}(hE:N.size p=sz) (R:lh h0 hb g o C costs N p) (a:Nw hb h) (hna3:N.na<=300) (hsz:sz<1000000){Fl:Nat->Prop}(hs:Sz dQ Fl h A n K xs) (hFl:∀z,Fl z->z<h0.next\/hb.next<=z)
  (hK1:∀C' costs' cnt h',bI N xs->lh h0 h' g o C' costs' (N.step xs) p->Mt (λz=>h0.next<=z/\z<hb.next) h h'->Q (.tuple #[ω (η ⟨C',0,ν⟩) sz (cx sz),ξ ψ cnt,.nilIface]) h')
  (hK2:∀t u h',¬bI N xs->lh h0 h' g o C costs (N.step xs) p->Nw h h'->Q (.tuple #[ω ν 0 0,ξ ψ 0,.iface t u]) h') :
  WC Tryz.prog 27 [μ (η ⟨g,0,ν⟩),μ (η ⟨o,0,ν⟩),ω (η ⟨C,0,ν⟩) sz (cx sz),ω A n K] h Q:=by
 subst hE;refine DZ R a hna3 hsz hs hFl (λB C' costs' cnt h' R' m=>hK1 C' costs' cnt h' B ?_ m) λnB t u h' k=>hK2 t u h' nB ?_ k
 .unfold ab.step;rw[if_pos B];exact R'
 .unfold ab.step;rw[if_neg nB];obtain⟨⟨Fa,Ft,F',X,lo,Fo,O,lo2,nC⟩,cs,cp,co,nn⟩:=R;have k':=a.trans k;have:=k'.next;exact⟨⟨Fa,Ft,F',X.nw k',lo,Fo,O.nw k',lo2,nC⟩,k'.bk cp.2 cs,⟨cp.1,U⟩,co,nn⟩
theorem FI (Z:cq h F Av nv Kv Aa na Ka At nt Kt N) (hf:py N) (ok:N.Ok) (hna:0<na) (hs:Sz (Rc.sliceZ cI) G h Ap np Kp p) (hp:aB N.nv p){H:Nat->Prop}(hl:Sz (Rc.sliceZ dQ) H h Al nl Kl ls) (hl6:nl<=1000) (hl3:∀l∈ls,l.length<=300)
  (hK:∀g o C costs h',lh h h' g o C costs (N.behind ls) p->Nw h h'->Q (.tuple #[μ (η ⟨g,0,ν⟩),μ (η ⟨o,0,ν⟩),ω (η ⟨C,0,ν⟩) (N.size p) (cx (N.size p)),.bool true]) h') :
  WC Tryz.prog 7 [.agg #[ω Av nv Kv,ω Aa na Ka,ω At nt Kt],.agg #[ω Ap np Kp],ω Al nl Kl] h Q:=by
 have hll:=hl.len;have hsz:N.size p<1000000:=lg hf.2.1 hp.few;refine vn λh1 e1 h2 e2=>?_;obtain⟨k1,g1,z1⟩:=aj e1;obtain⟨k2,g2,z2⟩:=aj e2;have k12:=k1.trans k2;have z12:=k12.next;have g12:=k2.bk U g1;refine⟨_,_,_,_,_,_,_,_,_,aK (aa g12 rfl) (aa g12 rfl) (aa g12 rfl),_,_,_,eo (aa g2 rfl),Ck (Z.nw k12) hf ok hna (hs.nw k12) hp λg o C costs h3 R k3=>⟨_,_,_,_,_,_,rfl,λ_=>?_,λh=>Bool.noConfusion h⟩⟩;refine⟨λm A n K x h4=>∃(i C:Nat) (costs:List Int),A=η ⟨C,0,ν⟩/\n=N.size p/\K=cx (N.size p)/\x=i/\i<=nl/\m=nl - i/\lh h2 h4 g o C costs (N.behind (ls.take i)) p/\Nw h2 h4,nl,⟨0,C,costs,rfl,rfl,rfl,rfl,Nat.zero_le _,rfl,R,k3⟩,?_⟩;rintro m A n K x h4 ⟨i,C,costs,rfl,rfl,rfl,rfl,hi,rfl,R4,k4⟩;have z4:=k4.next;refine⟨λhlt=>?_,λhge=>?_⟩
 .have hi':i<nl:=U;obtain⟨b,of,A',n',K',l,hA,-,-,hx,l0,sl⟩:=(hl.nw (k12.trans k4)).rowZ hi';have hl300:=hl3 l (List.mem_of_getElem? hx);have hn':=sl.len;have S:=ab.behind_shp (ls.take i) N;have htk:N.behind (ls.take (i+1))=(N.behind (ls.take i)).step l:=by rw[List.take_add_one,hx];exact ab.behind_snoc _ _ _
  refine⟨i,rfl,b,of,hA,hi',_,_,_,l0,GT sl U λA5 K5 h5 s5 k5=>⟨_,_,_,rfl,?_⟩⟩;refine Cq (by rw[S.size]) R4 k5 (by rw[S.na];exact hf.2.1) hsz s5.z (λz hz=>.inr hz) (λC' costs' cnt h6 B R6 m6=>⟨_,_,_,_,ν,rfl,λ_=>⟨_,eD U,nl - (i+1),U,i+1,C',costs',rfl,rfl,rfl,rfl,U,rfl,by rw[htk];exact R6,m6.is_nw (k4.trans k5) λz hz=>hz.1⟩,λt u h=>by cases h⟩) λt u h6 nB R6 k6=>⟨_,_,_,_,η (t,u),rfl,(λh=>by cases h),λt' u' e=>⟨_,eD U,nl - (i+1),U,i+1,C,costs,rfl,rfl,rfl,rfl,U,rfl,by rw[htk];exact R6,(k4.trans k5).trans k6⟩⟩
 .obtain rfl:i=nl:=U;have e:ls.take i=ls:=List.take_of_length_le U;rw[e]at R4;exact hK g o C costs h4 (R4.lower U) (k12.trans k4)
end
end Eva
end
section
open Go Go.RowKit
namespace Eva
section
variable {h h':AH}{F G:Nat->Prop}{Q:Value->AH->Prop}{A:Option Addr}{n K:Nat}{xs:List Int}
theorem uY (m:Nat) (A:Option Addr) (n K:Nat):ku (m+1) (ω A n K):=by
 cases A with
 | none=>trivial
 | some a=>rfl
theorem wQ (x:Int) (hK:Q (ξ ψ (dF x)) h):WC Tryz.prog 96 [ξ ψ x] h Q:=by
 unfold dF at hK;refine uk ⟨λh0=>?_,λh0=>⟨λh1=>?_,λh1=>?_⟩⟩
 .rwa [if_pos h0]at hK
 .rwa [if_neg h0,if_pos h1]at hK
 .rwa [if_neg h0,if_neg h1]at hK
theorem uZ (a b:Int) (hK:Q (ξ ψ (ck a b)) h):WC Tryz.prog 48 [ξ ψ a,ξ ψ b] h Q:=by
 have h1:=gj a;have h2:=gj b;exact wq (wQ a ⟨_,rfl,wQ b ⟨_,rfl,_,af U U,wQ _ ⟨_,rfl,hK⟩⟩⟩)
end
end Eva
end
section
open Go Go.RowKit
namespace Eva
def Rc.raw:Rc (Int×Int×Option Addr×Nat×Nat) where
 size:=3
 rel:=λ_ _ cs x=>cs = [ξ ψ x.1,ξ ψ x.2.1,.slice x.2.2.1 x.2.2.2.1 x.2.2.2.2]
 len:=λh=>by rw[h];rfl
 flat:=λh u hu=>by rw[h]at hu;simp at hu;rcases hu with rfl | rfl | rfl <;>rfl
 keep:=λ_ _ h=>h
 mono:=λ_ h=>h
theorem Cr:po Rc.raw:=λh=>h
def kf (ts:List ly) (k:Nat):ly:=(ts[k]?).getD (0,0,[])
theorem tf {ts:List ly}{k:Nat}{t:ly}(h:ts[k]? = η t):kf ts k=t:=by unfold kf;rw[h];rfl
def j9 (ts:List ly) (R:Nat->Option Addr) (K:Nat->Nat) (n:Nat):List (Int×Int×Option Addr×Nat×Nat):=(List.range n).map λk=>((kf ts k).1,(kf ts k).2.1,R k,(kf ts k).2.2.length,K k)
theorem u9 {ts:List ly}{R:Nat->Option Addr}{K:Nat->Nat}{n k:Nat}(hk:k<n):(j9 ts R K n)[k]? = η ((kf ts k).1,(kf ts k).2.1,R k,(kf ts k).2.2.length,K k):=by
 unfold j9;rw[List.getElem?_map,List.getElem?_range hk];rfl
theorem pG {ts ts':List ly}{R R':Nat->Option Addr}{K K':Nat->Nat}{n:Nat}(h:∀k,k<n->((kf ts k).1,(kf ts k).2.1,R k,(kf ts k).2.2.length,K k)=((kf ts' k).1,(kf ts' k).2.1,R' k,(kf ts' k).2.2.length,K' k)):j9 ts R K n=j9 ts' R' K' n:=by
 unfold j9;exact List.map_congr_left λk hk=>h k (List.mem_range.1 hk)
structure fe (h:AH) (W:Nat->Prop) (A:Option Addr) (n K:Nat) (ts:List ly):Prop where
 len:ts.length=n
 ex:∃(R:Nat->Option Addr) (K':Nat->Nat),al Rc.raw h (ah A) 128 A n K (j9 ts R K' n)/\(∀k,k<n->al cI h (ah (R k)) 2 (R k) (kf ts k).2.2.length (K' k) (kf ts k).2.2)/\(∀k z,k<n->ah (R k) z->W z/\¬ah A z)/\(∀k k' z,k<n->k' < n->ah (R k) z->ah (R k') z->k=k')
 lo:∀z,ah A z->W z
theorem al.setI {h:AH}{D:Nat->Prop}{e:TypeId}{g n K i:Nat}{xs:List Int}(o:al cI h D e (η ⟨g,0,ν⟩) n K xs) (hi:i<n) (c:Int):∃h2,iE h g (0+i) [ξ ψ c]=η h2/\al cI h2 D e (η ⟨g,0,ν⟩) n K (xs.set i c)/\h2.next=h.next/\∀b,b≠g->h2.get b=h.get b:=by
 obtain⟨hl,o⟩:=o;rcases o with⟨h0,_⟩ | ⟨g',cells,hA,h1,h2,h3,h4,h5,h6,h7⟩
 .cases h0
 .injection hA with hA;injection hA with hA;subst hA;have h4':cells.length=n:=by rw[h4];exact Nat.mul_one n
  obtain⟨hh,q1,q2,q3,q4⟩:=aD (v:=ξ ψ c) h3 (o:=0+i) U rfl;refine⟨hh,q1,⟨by simp[hl],.inr ⟨g,_,rfl,h1,U,q2,by rw[List.length_set];exact h4,h5,λu hu=>?_,λk x hx=>?_⟩⟩,q3,q4⟩
  .rcases List.mem_or_eq_of_mem_set hu with hu | rfl
   .exact h6 u hu
   .rfl
  .show((cells.set (0+i) (ξ ψ c)).drop (k*1)).take 1 = [ξ ψ x];rw[Nat.mul_one,Nat.zero_add];refine di ?_;rw[List.getElem?_set]at hx⊢;by_cases e:i=k
   .subst e;rw[if_pos rfl,if_pos U]at hx;rw[if_pos rfl,if_pos U,<-Option.some.inj hx]
   .rw[if_neg e]at hx;rw[if_neg e];have hr:(cells.drop (k*1)).take 1 = [ξ ψ x]:=h7 k x hx;rw[Nat.mul_one]at hr;have:=congrArg (λl=>l[0]?) hr;simpa using this
theorem al.setW {h:AH}{D:Nat->Prop}{e:TypeId}{g n K k:Nat}{xs:List fQ}{x:fQ}(o:al aN h D e (η ⟨g,0,ν⟩) n K xs) (hk:xs[k]? = η x) (c:Int):∃h2,iE h g (0+k*3+2) [ξ ψ c]=η h2/\al aN h2 D e (η ⟨g,0,ν⟩) n K (xs.set k (x.1,x.2.1,c))/\h2.next=h.next/\∀b,b≠g->h2.get b=h.get b:=by
 have hkn:k<n:=by rw[<-o.1];exact(List.getElem?_eq_some_iff.1 hk).1
 obtain⟨gA,f,hA,hD,hlt,hB,hf,hK2,hfl,hrel⟩:=o.elems U (by decide);injection hA with hA;injection hA with hA;subst hA;obtain⟨h2,s2,B2,z2,o2⟩:=sX hB hf (k:=k) hkn (j:=2) (by decide) (x:=ξ ψ c) rfl;refine⟨h2,s2,al.of_elems (by simp[o.1]) hD U B2 (λj=>?_) hK2 λj y hy=>?_,z2,o2⟩
 .unfold upd
  split
  .simp[hf]
  .exact hf j
 .show aN.rel _ h2 (upd f k ((f k).set 2 (ξ ψ c)) j) y;rw[List.getElem?_set]at hy;unfold upd;by_cases e:k=j
  .subst e;rw[if_pos rfl,if_pos (by rw[o.1];exact hkn)]at hy;obtain rfl:=Option.some.inj hy;have hfa:f k = [ξ ψ x.1,ξ ψ x.2.1,ξ ψ x.2.2]:=hrel k _ hk;rw[if_pos rfl,hfa];rfl
  .rw[if_neg e]at hy;rw[if_neg (λh=>e h.symm)];exact hrel j y hy
section
variable {h h':AH}{W W':Nat->Prop}{A:Option Addr}{n K:Nat}{ts:List ly}
theorem fe.nil (h:AH) (W:Nat->Prop):fe h W ν 0 0 []:=⟨rfl,⟨λ_=>ν,λ_=>0,al.nil _ _ _ _,λk hk=>absurd hk (Nat.not_lt_zero _),λk z hk=>absurd hk (Nat.not_lt_zero _),λk k' z hk=>absurd hk (Nat.not_lt_zero _)⟩,λz hz=>hz.elim⟩
theorem fe.off (o:fe h W A n K ts){S:Nat->Prop}(m:Mt S h h') (hS:∀z,W z->z<h.next->¬S z):fe h' W A n K ts:=by
 obtain⟨l,⟨R,K',h1,h2,h3,h4⟩,h5⟩:=o;exact⟨l,⟨R,K',h1.off m λz hz hlt=>hS z (h5 z hz) hlt,λk hk=>(h2 k hk).off m λz hz hlt=>hS z (h3 k z hk hz).1 hlt,h3,h4⟩,h5⟩
theorem fe.nw (o:fe h W A n K ts) (a:Nw h h'):fe h' W A n K ts:=o.off (S:=λ_=>False) (.of a) λ_ _ _ h=>h
theorem fe.lt (o:fe h W A n K ts):fe h (λz=>W z/\z<h.next) A n K ts:=by
 obtain⟨l,⟨R,K',h1,h2,h3,h4⟩,h5⟩:=o;exact⟨l,⟨R,K',h1,h2,λk z hk hz=>⟨⟨(h3 k z hk hz).1,(h2 k hk).own hz⟩,(h3 k z hk hz).2⟩,h4⟩,λz hz=>⟨h5 z hz,h1.own hz⟩⟩
theorem fe.mono (o:fe h W A n K ts) (hW:∀z,W z->W' z):fe h W' A n K ts:=by
 obtain⟨l,⟨R,K',h1,h2,h3,h4⟩,h5⟩:=o;exact⟨l,⟨R,K',h1,h2,λk z hk hz=>⟨hW z (h3 k z hk hz).1,(h3 k z hk hz).2⟩,h4⟩,λz hz=>hW z (h5 z hz)⟩
theorem fe.sz (o:fe h W A n K ts):Sz Rc.tableZ W h A n K ts:=by
 obtain⟨l,⟨R,K',h1,h2,h3,h4⟩,h5⟩:=o;refine⟨l,λhn=>?_⟩;obtain⟨b,o',rfl,hF,hb,hx⟩:=h1.sa.at_ hn;refine⟨b,o',rfl,h5 b hF,hb,λk t hk=>?_⟩;have hkn:k<n:=by rw[<-l];exact(List.getElem?_eq_some_iff.1 hk).1
 obtain⟨cs,hc,hr⟩:=hx k _ (u9 hkn);have ht:=tf hk;rw[ht]at hr;have o2:=h2 k hkn;rw[ht]at o2;exact⟨cs,hc,⟨_,_,_,hr,(o2.sa.mono λz hz _=>(h3 k z hkn hz).1).z⟩⟩
theorem fe.st (o:fe h W A n K ts){k i:Nat}{t:ly}(hk:ts[k]? = η t) (hi:i<t.2.2.length) (c:Int):∃(g:Nat) (K1 gr:Nat),A=η ⟨g,0,ν⟩/\au h g (0+k*3) 3=η [ξ ψ t.1,ξ ψ t.2.1,ω (η ⟨gr,0,ν⟩) t.2.2.length K1]/\W gr/\gr<h.next/\
  ∀h1,Nw h h1->∃h2,iE h1 gr (0+i) [ξ ψ c]=η h2/\fe h2 W A n K (ts.set k (t.1,t.2.1,t.2.2.set i c))/\h2.next=h1.next/\∀b,b≠gr->h2.get b=h1.get b:=by
 obtain⟨l,⟨R,K',h1,h2,h3,h4⟩,h5⟩:=o;have hkn:k<n:=by rw[<-l];exact(List.getElem?_eq_some_iff.1 hk).1
 have ht:=tf hk;have o2:=h2 k hkn;rw[ht]at o2;obtain⟨b,o',x,cs,hA,hF,hb,hx,hc,hr⟩:=h1.sa.get hkn;obtain⟨hl1,h1'⟩:=id h1;rcases h1' with⟨-,hn0,-⟩ | ⟨g,cells,hg,-⟩
 .omega
 .rw[hg]at hA;injection hA with hA;injection hA with hA hA2;subst hA hA2;obtain⟨hl2,o2'⟩:=id o2;rcases o2' with⟨-,hn0,-⟩ | ⟨gr,cells2,hgr,-⟩
  .omega
  .obtain rfl:x=_:=Option.some.inj (hx.symm.trans (u9 hkn));rw[ht]at hr;have hr':cs = [ξ ψ t.1,ξ ψ t.2.1,.slice (R k) t.2.2.length (K' k)]:=hr;rw[hgr]at hr';have hown:ah (R k) gr:=by rw[hgr];rfl
   have c0:=hc 0 _ (by rw[hr'];rfl);have c1:=hc 1 _ (by rw[hr'];rfl);have c2:=hc 2 _ (by rw[hr'];rfl);refine⟨g,K' k,gr,hg,aK (by simpa[Rc.raw]using c0) (by simpa[Rc.raw,Nat.add_assoc]using c1) (by simpa[Rc.raw,Nat.add_assoc]using c2),(h3 k gr hkn hown).1,o2.own hown,λh1a a=>?_⟩;have o3:=o2.nw a;rw[hgr]at o3;obtain⟨h2a,s2,o4,z2,q2⟩:=al.setI o3 hi c;have m:Mt (λz=>z=gr) h1a h2a:=⟨U,λz _ hn=>q2 z hn⟩;refine⟨h2a,s2,⟨by rw[List.length_set];exact l,⟨R,K',?_,λj hj=>?_,h3,h4⟩,h5⟩,z2,q2⟩
   .have e:j9 ts R K' n=j9 (ts.set k (t.1,t.2.1,t.2.2.set i c)) R K' n:=pG λj hj=>by
     unfold kf;rw[List.getElem?_set];by_cases e:k=j
     .subst e;rw[if_pos rfl,if_pos U,hk];simp
     .rw[if_neg e]
    rw[<-e];exact(h1.nw a).off m λz hz _ e=>(h3 k gr hkn hown).2 (e ▸ hz)
   .by_cases e:k=j
    .subst e;have e1:kf (ts.set k (t.1,t.2.1,t.2.2.set i c)) k=(t.1,t.2.1,t.2.2.set i c):=tf (by rw[List.getElem?_set,if_pos rfl,if_pos U]);rw[e1,hgr];simp only[List.length_set];exact o4
    .have e1:kf (ts.set k (t.1,t.2.1,t.2.2.set i c)) j=kf ts j:=by unfold kf;rw[List.getElem?_set,if_neg e]
     rw[e1];exact((h2 j hj).nw a).off m λz hz _ e'=>e (h4 k j gr hkn hj hown (e' ▸ hz))
end
section
variable {h h':AH}{F G:Nat->Prop}{Q:Value->AH->Prop}{A Av Aa At Ap:Option Addr}{n K nv Kv na Ka nt Kt np Kp:Nat}{N:ab}{p:List (List Int)}
theorem FJ (Z0:cq h F Av nv Kv Aa na Ka At nt Kt N) (hf:py N)
  (hK:∀A1 K1 A2 K2 A3 K3 h',al aN h' (ah A1) 130 A1 nv K1 N.vs->al aN h' (ah A2) 124 A2 na K2 N.xa->fe h' (λz=>h.next<=z/\¬ah A1 z/\¬ah A2 z/\z<h'.next) A3 nt K3 N.ts->(∀z,ah A1 z->h.next<=z/\¬ah A2 z)->(∀z,ah A2 z->h.next<=z)->Nw h h'->Q (.agg #[ω A1 nv K1,ω A2 na K2,ω A3 nt K3]) h') :
  WC Tryz.prog 76 [.agg #[ω Av nv Kv,ω Aa na Ka,ω At nt Kt]] h Q:=by
 have Z:=Z0.old;have lv:=Z.vs.len;have la:=Z.xa.len;have lt:=Z.ts.len;obtain⟨f1,f2,f3,f4⟩:=hf;refine pJ λh1 e1 h2 e2 h3 e3=>?_;obtain⟨k1,g1,z1⟩:=aj e1;obtain⟨k2,g2,z2⟩:=aj e2;obtain⟨k3,g3,z3⟩:=aj e3;refine⟨_,_,_,aa ((k2.trans k3).bk U g1) rfl,λh4 e4=>?_⟩;obtain⟨k4,g4,z4⟩:=aj e4;refine⟨_,_,_,aa (((k2.trans k3).trans k4).bk U g1) rfl,λh5 e5=>?_⟩;obtain⟨k5,g5,z5⟩:=aj e5;have k25:=((k2.trans k3).trans k4).trans k5;have k15:=k1.trans k25;obtain⟨A6,K6,h6,x1,x2,x3,x4⟩:=px (r:=aN) (bytes:=24) (em _ _ _) (by kernel_rfl) Z.vs U U k15 ((k4.trans k5).bk U g3) U U;have z6:=x3.next;have k16:Nw h h6:=x3.is_nw k15 λz hz=>U;have g16:=x3.bk U U (k25.bk U g1);obtain⟨A7,K7,h7,y1,y2,y3,y4⟩:=px (r:=aN) (bytes:=24) (em _ _ _) (by kernel_rfl) Z.xa U U k16 (x3.bk U U (k5.bk U g4)) U U;have z7:=y3.next;obtain⟨h8,s8,b8,z8,o8⟩:=bL (vs:=[ω A6 nv K6,ω A7 na K7,ω ν 0 0]) (y3.bk U U (x3.bk U U g5)) rfl (by simp[flat]);have m8:Mt (λz=>z=h4.next) h7 h8:=⟨U,λz _ hn=>o8 z hn⟩;have lo6:∀z,ah A6 z->h.next<=z/\z≠h4.next/\z≠h1.next/\z≠h3.next/\z<h6.next:=λz hz=>by rcases x4 z hz with h | h <;>omega
 have lo7:∀z,ah A7 z->h.next<=z/\z≠h4.next/\z≠h1.next/\z<h7.next/\(z=h3.next\/h6.next<=z):=λz hz=>by rcases y4 z hz with h | h <;>omega
 have v8:al aN h8 (ah A6) 130 A6 nv K6 N.vs:=(x2.off y3 λz hz _ e=>(lo6 z hz).2.2.2.1 e).off m8 λz hz _ e=>(lo6 z hz).2.1 e;have a8:al aN h8 (ah A7) 124 A7 na K7 N.xa:=y2.off m8 λz hz _ e=>(lo7 z hz).2.1 e;have k18:Nw h h8:=m8.is_nw (y3.is_nw k16 λz hz=>U) λz hz=>U;have g18:=m8.bk U U (y3.bk U U g16);have g28:Bk h8 h1.next [ω ν 0 0,ω ν 0 0,ω ν 0 0] 26:=m8.bk U U (y3.bk U U (x3.bk U U (((k3.trans k4).trans k5).bk U g2)));refine⟨A6,nv,K6,h6,x1,aa g16 rfl,uY 5 _ _ _,A7,na,K7,h7,y1,h8,s8,λm x h12=>∃(l:Nat) (A3:Option Addr) (K3:Nat),x=l/\l<=nt/\m=nt - l/\Bk h12 h4.next [ω A6 nv K6,ω A7 na K7,ω A3 l K3] 26/\fe h12 (λz=>h8.next<=z) A3 l K3 (N.ts.take l)/\Mt (λz=>z=h4.next) h8 h12,nt,⟨0,ν,0,rfl,Nat.zero_le _,rfl,b8,fe.nil _ _,Mt.refl _ _⟩,?_⟩;rintro m3 x h12 ⟨l,A3,K3,rfl,hl,hm3,b12,o3,m12⟩;have z12:=m12.next;have k112:Nw h h12:=m12.is_nw k18 λz hz=>U;have g112:=m12.bk U U g18;have g212:=m12.bk U U g28;refine⟨_,_,_,aa g112 rfl,λhlt=>?_,λhge3=>?_⟩
 .obtain⟨b',o',p',q',A',n',K',zs,hA',-,-,htt,f0,f1',f2',sz⟩:=(Z.nw k112).ts.tableZ (k:=l) U;have hcc:=f4 _ (List.mem_of_getElem? htt);have hzl:=sz.len;simp only at hcc;refine⟨_,_,_,aa g112 rfl,l,rfl,b',o',hA',U,_,_,_,_,_,aK f0 f1' f2',λh10 e10=>?_⟩;obtain⟨h11,s11,k11,g11,z11⟩:=aC (vs:=[ξ ψ p',ξ ψ q',ω A' n' K']) e10 rfl (by simp[flat]);have b11:=k11.bk U b12;refine⟨h11,s11,_,_,_,aa b11 rfl,p',aa g11 rfl,q',aa g11 rfl,λh12' e12=>?_⟩;obtain⟨k12,g12,z12'⟩:=aj e12;obtain⟨A13,K13,h13,w1,w2,w3,w4⟩:=px (r:=cI) (bytes:=8) (t:=2) eM (by kernel_rfl) sz U U (k11.trans k12) g12 U U;have z13:=w3.next;have b13:=w3.bk U U (k12.bk U b11);have g13:=w3.bk U U (k12.bk U g11);have k12x:Nw h12 h13:=w3.is_nw (k11.trans k12) λz hz=>U;obtain⟨ol,⟨R,K9,r1',r2',r3,r4⟩,r5⟩:=o3;have r1:=r1'.nw k12x;have r2:∀k,k<l->al cI h13 (ah (R k)) 2 (R k) (kf (N.ts.take l) k).2.2.length (K9 k) (kf (N.ts.take l) k).2.2:=λk hk=>(r2' k hk).nw k12x;have hRold:∀k z,k<l->ah (R k) z->z<h12.next:=λk z hk hz=>(r2' k hk).own hz;refine⟨_,_,_,aa (k12.bk U g11) rfl,A13,n',K13,h13,w1,aa g13 rfl,aa g13 rfl,aa b13 rfl,r1.spot,λh14 e14=>?_⟩;obtain⟨k14,g14,z14⟩:=aj e14;have lo13:∀z,ah A13 z->h12.next<=z/\z<h13.next:=λz hz=>by rcases w4 z hz with h | h <;>omega
  have hz:Sz Rc.raw (λz=>z=h13.next) h14 (η ⟨h13.next,0,ν⟩) 1 2 [(p',q',A13,n',K13)]:=Sz.one g14 rfl U rfl rfl;obtain⟨A21,K21,h15,u1,u2,u3,u4⟩:=aV (r:=Rc.raw) (bytes:=40) Cr (by kernel_rfl) (r1.nw k14) hz U U;have z15:=u3.next;have nO:∀{z},ah A3 z->h8.next<=z/\z<h12.next:=fun {z} ho=>⟨r5 z ho,r1'.own ho⟩;obtain⟨h16,s16,b16,z16,o16⟩:=aD (v:=ω A21 (l+1) K21) (u3.bk U (λho=>by have:=nO ho;omega) (k14.bk U b13)) (o:=2) (by simp) rfl;have m16:Mt (λz=>z=h4.next) h15 h16:=⟨U,λz _ hn=>o16 z hn⟩;have lo21:∀z,ah A21 z->(ah A3 z\/h14.next<=z)/\h8.next<=z:=λz hz=>(u4 z hz).elim (λh=>⟨.inl h,r5 z h⟩) (λh=>⟨.inr h.1,U⟩);have htk:N.ts.take (l+1)=N.ts.take l ++ [(p',q',zs)]:=by rw[List.take_add_one,htt];rfl
  have tkl:(N.ts.take l).length=l:=by rw[List.length_take];omega
  have tlt:∀k,k<l->kf (N.ts.take (l+1)) k=kf (N.ts.take l) k:=λk hk=>by unfold kf;rw[htk,List.getElem?_append_left U]
  have teq:kf (N.ts.take (l+1)) l=(p',q',zs):=tf (by rw[htk,List.getElem?_append_right U,tkl,Nat.sub_self];rfl);refine⟨A21,l+1,K21,h15,u1,h16,s16,_,eD U,nt - (l+1),U,l+1,A21,K21,rfl,U,rfl,b16,⟨by rw[htk,List.length_append,tkl];rfl,⟨upd R l A13,upd K9 l K13,?_,λk hk=>?_,λk z hk hz=>?_,λk k' z hk hk' h h'=>?_⟩,λz hz=>(lo21 z hz).2⟩,((((m12.nw k11).nw k12).trans w3 λz hz hlt=>U).nw k14 |>.trans u3 λz hz hlt=>by have:=(nO hz).1;omega).then m16⟩
  .have e:j9 (N.ts.take l) R K9 l ++ [(p',q',A13,n',K13)]=j9 (N.ts.take (l+1)) (upd R l A13) (upd K9 l K13) (l+1):=by
    have q:j9 (N.ts.take l) R K9 l=j9 (N.ts.take (l+1)) (upd R l A13) (upd K9 l K13) l:=pG λk hk=>by
     rw[tlt k hk];unfold upd;rw[if_neg U,if_neg U]
    have q2:j9 (N.ts.take (l+1)) (upd R l A13) (upd K9 l K13) (l+1)=j9 (N.ts.take (l+1)) (upd R l A13) (upd K9 l K13) l ++ [((kf (N.ts.take (l+1)) l).1,(kf (N.ts.take (l+1)) l).2.1,upd R l A13 l,(kf (N.ts.take (l+1)) l).2.2.length,upd K9 l K13 l)]:=by
     unfold j9;rw[List.range_succ,List.map_append];rfl
    rw[q2,q,teq];simp[upd,hzl]
   rw[<-e];exact u2.off m16 λz hz _ e=>by have:=(lo21 z hz).2;omega
  .unfold upd;by_cases e:k=l
   .subst e;rw[if_pos rfl,if_pos rfl,teq];simp only;rw[hzl];exact(((w2.nw k14).off u3 λz hz _ ho=>by have:=lo13 z hz;have:=nO ho;omega)).off m16 λz hz _ e=>by have:=lo13 z hz;omega
   .have hk':k<l:=U;rw[if_neg e,if_neg e,tlt k hk'];exact((((r2 k hk').nw k14).off u3 λz hz _ ho=>(r3 k z hk' hz).2 ho)).off m16 λz hz _ e=>by have:=(r3 k z hk' hz).1;omega
  .unfold upd at hz;by_cases e:k=l
   .rw[if_pos e]at hz;have:=lo13 z hz;exact⟨U,λho=>(lo21 z ho).1.elim (λh=>by have:=nO h;omega) (λh=>U)⟩
   .rw[if_neg e]at hz;have hk':k<l:=U;have:=hRold k z hk' hz;exact⟨(r3 k z hk' hz).1,λho=>(lo21 z ho).1.elim (λh=>(r3 k z hk' hz).2 h) (λh=>U)⟩
  .have new:∀{a:Nat},a<l->ah (R a) z->¬ah A13 z:=fun {a} ha h1 h2=>by
    have q1:=lo13 z h2;have:=hRold a z ha h1;omega
   unfold upd at h h';by_cases e:k=l
   .by_cases e':k' = l
    .omega
    .rw[if_pos e]at h;rw[if_neg e']at h';exact absurd h (new U h')
   .by_cases e':k' = l
    .rw[if_neg e]at h;rw[if_pos e']at h';exact absurd h' (new U h)
    .rw[if_neg e]at h;rw[if_neg e']at h';exact r4 k k' z U U h h'
 .obtain rfl:l=nt:=U;rw[List.take_of_length_le U]at o3;obtain⟨h17,s17,b17,z17,o17⟩:=bL (vs:=[ω A6 nv K6,ω A7 na K7,ω A3 l K3]) g212 rfl (by simp[flat]);have m17:Mt (λz=>z=h1.next) h12 h17:=⟨U,λz _ hn=>o17 z hn⟩;refine⟨_,_,_,_,_,_,_,_,_,aK (aa b12 rfl) (aa b12 rfl) (aa b12 rfl),h17,s17,_,_,_,_,_,_,_,_,_,aK (aa b17 rfl) (aa b17 rfl) (aa b17 rfl),hK _ _ _ _ _ _ h17 ?_ ?_ ?_ (λz hz=>?_) (λz hz=>?_) (m17.is_nw k112 λz hz=>U)⟩
  .exact(v8.off m12 λz hz _ e=>(lo6 z hz).2.1 e).off m17 λz hz _ e=>(lo6 z hz).2.2.1 e
  .exact(a8.off m12 λz hz _ e=>(lo7 z hz).2.1 e).off m17 λz hz _ e=>(lo7 z hz).2.2.1 e
  .exact((o3.off m17 λz hz _ e=>U).lt).mono λz hz=>⟨U,λh=>by have:=lo6 z h;omega,λh=>by have:=lo7 z h;omega,hz.2⟩
  .have:=lo6 z hz;exact⟨this.1,λh7=>by have:=lo7 z h7;omega⟩
  .have:=lo7 z hz;exact this.1
end
end Eva
end
section
open Go Go.RowKit
namespace Eva
section
variable {h h':AH}{F G:Nat->Prop}{Q:Value->AH->Prop}{A Av Aa At Ap:Option Addr}{n K nv Kv na Ka nt Kt np Kp:Nat}{N:ab}{p:List (List Int)}{xs:List Int}
theorem yl (hs:Sa cI F h A n K xs) (hn:n<=1000000) (a:Int) (hK:Q (ξ ψ (if a∈xs then((xs.idxOf a:Nat):Int) else -1)) h):WC Tryz.prog 93 [ω A n K,ξ ψ a] h Q:=by
 have hl:=hs.len;refine sF ⟨λm x h1=>∃i:Nat,x=i/\i<=n/\m=n - i/\a ∉ xs.take i/\h1=h,n,⟨0,rfl,Nat.zero_le _,rfl,by simp,rfl⟩,?_⟩;rintro m x h1 ⟨i,rfl,hi,rfl,hno,rfl⟩;refine⟨λhlt=>?_,λhge=>?_⟩
 .obtain⟨b,o,x,hA,-,-,hx,e0⟩:=hs.int (k:=i) U;refine⟨i,rfl,b,o,hA,U,x,e0,λhe=>?_,λhne=>⟨_,eD U,n - (i+1),U,i+1,rfl,U,rfl,?_,rfl⟩⟩
  .subst he;have hm:=List.mem_of_getElem? hx;rw[if_pos hm]at hK;have hi':xs.idxOf x=i:=by
    have e:xs=xs.take i ++ x :: xs.drop (i+1):=by
     have e1:=List.drop_eq_getElem_cons (by omega:i<xs.length);rw[(List.getElem?_eq_some_iff.1 hx).2]at e1;rw[<-e1,List.take_append_drop]
    rw[e,List.idxOf_append,if_neg hno];simp;omega
   rw[hi']at hK;exact hK
  .rw[List.take_add_one,hx];simp only[Option.toList_some,List.mem_append,List.mem_singleton];rintro(h | h)
   .exact hno h
   .exact hne h.symm
 .rw[List.take_of_length_le U]at hno;rw[if_neg hno]at hK;exact hK
theorem pH (Z:cq h F Av nv Kv Aa na Ka At nt Kt N){x:Int}(hK:∀(y:Bool) h',Nw h h'->(y=true↔0<=x/\x<N.na)->Q (.bool y) h'):WC Tryz.prog 46 [.agg #[ω Av nv Kv,ω Aa na Ka,ω At nt Kt],ξ ψ x] h Q:=by
 have la:N.na=na:=Z.xa.len;refine sH λh1 e1=>?_;obtain⟨k1,g1,z1⟩:=aj e1;refine⟨λh0=>⟨_,_,_,aa g1 rfl,λhlt=>hK true h1 k1 ⟨λ_=>⟨h0,U⟩,λ_=>rfl⟩,λhge=>hK false h1 k1 ⟨λh=>Bool.noConfusion h,λh=>absurd h.2 U⟩⟩,λhn=>hK false h1 k1 ⟨λh=>Bool.noConfusion h,λh=>absurd h.1 hn⟩⟩
theorem GU (Z:cq h F Av nv Kv Aa na Ka At nt Kt N) (ok:N.Ok) (hna:N.na<=1000){v:Nat}(hK:∀A' K' h',Sa cI (λz=>h.next<=z) h' A' (ends N.xa N.na (false,v)).length K' (ends N.xa N.na (false,v))->Nw h h'->Q (ω A' (ends N.xa N.na (false,v)).length K') h') :
  WC Tryz.prog 94 [.agg #[ω Av nv Kv,ω Aa na Ka,ω At nt Kt],ξ ψ v] h Q:=by
 have la:N.na=na:=Z.xa.len;refine wu λh1 e1=>?_;obtain⟨k1,g1,z1⟩:=aj e1;refine⟨λm A4 n4 K4 x h4=>∃i:Nat,x=i/\i<=N.na/\m=N.na - i/\n4=(ends N.xa i (false,v)).length/\al cI h4 (ah A4) 3 A4 n4 K4 (ends N.xa i (false,v))/\(∀z,ah A4 z->h1.next<=z)/\Nw h1 h4,N.na,⟨0,rfl,Nat.zero_le _,rfl,rfl,al.nil _ _ _ _,λz hz=>hz.elim,Nw.refl _⟩,?_⟩;rintro m A4 n4 K4 x h4 ⟨i,rfl,hi,hm,rfl,o4,lo4,k4⟩;have bA:∀{h'},Nw h4 h'->ldC h' h.next 1=η (ω Aa na Ka):=λa=>aa ((k4.trans a).bk U g1) rfl;have z4:=k4.next;refine⟨_,_,_,bA (Nw.refl _),λhlt=>?_,λhge=>?_⟩
 .have ht:=ab.to_lt ok (a:=i) U;obtain⟨b6,o6,u,v',w,hA6,-,-,hu,f0,f1,-⟩:=(Z.nw (k1.trans k4)).xa.tri (k:=i) U;have hel:=gf N.xa i (false,v);have hit_:hit N.xa false v i=(v' == (v:Int)):=by unfold hit;rw[hu];rfl
  refine⟨_,_,_,bA (Nw.refl _),i,rfl,b6,o6,hA6,U,_,f1,λhe=>?_,λhne=>?_⟩
  .have es:ends N.xa (i+1) (false,v)=ends N.xa i (false,v) ++ [(i:Int)]:=by rw[ge,if_pos (by rw[hit_];simpa using he)]
   refine λh5 e5=>?_;obtain⟨k5,g5,z5⟩:=aj e5;obtain⟨A6,K6,h6,y1,y2,y3,y4⟩:=aV (r:=cI) (cE _) dC (o4.nw k5) (Sz.one (r:=cI) (L:=2) (x:=(i:Int)) (F:=λz=>z=h4.next) g5 rfl U rfl rfl) U U;rw[<-es]at y2;refine⟨A6,_,K6,h6,y1,_,eD U,N.na - (i+1),U,i+1,rfl,U,rfl,by rw[es];simp,y2,λz hz=>(y4 z hz).elim (lo4 z) (λh=>U),y3.is_nw (k4.trans k5) lo4⟩
  .have es:ends N.xa (i+1) (false,v)=ends N.xa i (false,v):=by rw[ge,if_neg (by rw[hit_];simpa using hne)]
   exact⟨_,eD U,N.na - (i+1),U,i+1,rfl,U,rfl,by rw[es],by rw[es];exact o4,lo4,k4⟩
 .obtain rfl:i=N.na:=U;exact hK A4 K4 h4 (o4.sa.mono λz hz _=>by have:=lo4 z hz;omega) (k1.trans k4)
theorem FK (Z:cq h F Av nv Kv Aa na Ka At nt Kt N) (ok:N.Ok) (hna:N.na<=1000){v:Nat}(hK:∀A' K' h',Sa cI (λz=>h.next<=z) h' A' (ends N.xa N.na (true,v)).length K' (ends N.xa N.na (true,v))->Nw h h'->Q (ω A' (ends N.xa N.na (true,v)).length K') h') :
  WC Tryz.prog 95 [.agg #[ω Av nv Kv,ω Aa na Ka,ω At nt Kt],ξ ψ v] h Q:=by
 have la:N.na=na:=Z.xa.len;refine uo λh1 e1=>?_;obtain⟨k1,g1,z1⟩:=aj e1;refine⟨λm A4 n4 K4 x h4=>∃i:Nat,x=i/\i<=N.na/\m=N.na - i/\n4=(ends N.xa i (true,v)).length/\al cI h4 (ah A4) 3 A4 n4 K4 (ends N.xa i (true,v))/\(∀z,ah A4 z->h1.next<=z)/\Nw h1 h4,N.na,⟨0,rfl,Nat.zero_le _,rfl,rfl,al.nil _ _ _ _,λz hz=>hz.elim,Nw.refl _⟩,?_⟩;rintro m A4 n4 K4 x h4 ⟨i,rfl,hi,hm,rfl,o4,lo4,k4⟩;have bA:∀{h'},Nw h4 h'->ldC h' h.next 1=η (ω Aa na Ka):=λa=>aa ((k4.trans a).bk U g1) rfl;have z4:=k4.next;refine⟨_,_,_,bA (Nw.refl _),λhlt=>?_,λhge=>?_⟩
 .obtain⟨b6,o6,u,v',w,hA6,-,-,hu,f0,f1,-⟩:=(Z.nw (k1.trans k4)).xa.tri (k:=i) U;have hel:=gf N.xa i (true,v);have hit_:hit N.xa true v i=(u == (v:Int)):=by unfold hit;rw[hu];rfl
  refine⟨_,_,_,bA (Nw.refl _),i,rfl,b6,o6,hA6,U,_,f0,λhe=>?_,λhne=>?_⟩
  .have es:ends N.xa (i+1) (true,v)=ends N.xa i (true,v) ++ [(i:Int)]:=by rw[ge,if_pos (by rw[hit_];simpa using he)]
   refine λh5 e5=>?_;obtain⟨k5,g5,z5⟩:=aj e5;obtain⟨A6,K6,h6,y1,y2,y3,y4⟩:=aV (r:=cI) (cE _) dC (o4.nw k5) (Sz.one (r:=cI) (L:=2) (x:=(i:Int)) (F:=λz=>z=h4.next) g5 rfl U rfl rfl) U U;rw[<-es]at y2;refine⟨A6,_,K6,h6,y1,_,eD U,N.na - (i+1),U,i+1,rfl,U,rfl,by rw[es];simp,y2,λz hz=>(y4 z hz).elim (lo4 z) (λh=>U),y3.is_nw (k4.trans k5) lo4⟩
  .have es:ends N.xa (i+1) (true,v)=ends N.xa i (true,v):=by rw[ge,if_neg (by rw[hit_];simpa using hne)]
   exact⟨_,eD U,N.na - (i+1),U,i+1,rfl,U,rfl,by rw[es],by rw[es];exact o4,lo4,k4⟩
 .obtain rfl:i=N.na:=U;exact hK A4 K4 h4 (o4.sa.mono λz hz _=>by have:=lo4 z hz;omega) (k1.trans k4)
theorem Cs {t:ly}(hs:Sz cI F h A n K t.2.2) (ht:cM t.1 t.2.1 t.2.2){i o:Nat}(hK:∀h',Nw h h'->Q (ξ ψ (dE t i o)) h') :
  WC Tryz.prog 92 [.agg #[ξ ψ t.1,ξ ψ t.2.1,ω A n K],ξ ψ i,ξ ψ o] h Q:=by
 have ln:=hs.len;obtain⟨⟨i0,i1⟩,⟨q0,q1⟩,tl,-⟩:=id ht;obtain⟨I,hI⟩:=Int.eq_ofNat_of_zero_le i0;obtain⟨O,hO⟩:=Int.eq_ofNat_of_zero_le q0;have tl':n=I*O:=by rw[hI,hO,<-Int.natCast_mul]at tl;omega
 refine qh λh1 e1=>?_;obtain⟨k1,g1,z1⟩:=aj e1;have far:¬((i:Int)<t.1/\(o:Int)<t.2.1)->dE t i o=an:=λhn=>by unfold dE;rw[if_neg hn]
 have no:¬((i:Int)<t.1/\(o:Int)<t.2.1)->Q (ξ ψ 1152921504606846976) h1:=λhn=>by have:=hK h1 k1;rw[far hn]at this;exact this
 refine⟨λh=>absurd h U,λ_=>⟨_,aa g1 rfl,λhge=>no U,λhlt=>⟨λh=>absurd h U,λ_=>⟨_,aa g1 rfl,λhge=>no U,λhlt2=>?_⟩⟩⟩⟩;have hiI:i<I:=U;have hoO:o<O:=U;have hmul:(i+1)*O<=I*O:=Nat.mul_le_mul_right _ hiI;rw[Nat.succ_mul]at hmul;have hIO:I*O<=16*16:=Nat.mul_le_mul U U;obtain⟨b',o',y,hA,-,-,hy,e0⟩:=(hs.nw k1).int (k:=i*O+o) U;have w1:IntKind.i64.wrap ((i:Int)*t.2.1)=((i*O:Nat):Int):=by rw[hO,<-Int.natCast_mul];exact af U U
 have w2:IntKind.i64.wrap (((i*O:Nat):Int)+(o:Int))=((i*O+o:Nat):Int):=by rw[Int.natCast_add];exact af U U
 have hv:dE t i o=y:=by
  unfold dE;rw[if_pos ⟨U,U⟩,show t.2.1.toNat=O by omega,hy];rfl
 rw[hv]at hK;exact⟨_,_,_,aa g1 rfl,_,aa g1 rfl,_,w1,_,w2,i*O+o,rfl,b',o',hA,U,_,e0,hK h1 k1⟩
theorem wR (Z:cq h F Av nv Kv Aa na Ka At nt Kt N) (ok:N.Ok) (hna:N.na<=1000){a b:Nat}(ha:a<N.na) (hb:b<N.na) (hK:∀h',Nw h h'->Q (ξ ψ (N.turn a b)) h') :
  WC Tryz.prog 47 [.agg #[ω Av nv Kv,ω Aa na Ka,ω At nt Kt],ξ ψ a,ξ ψ b] h Q:=by
 have la:N.na=na:=Z.xa.len;have lv:N.nv=nv:=Z.vs.len;have lt:N.ts.length=nt:=Z.ts.len;refine un λh1 e1=>?_;obtain⟨k1,g1,z1⟩:=aj e1;have c0:∀{h'},Nw h1 h'->ldC h' h.next 0=η (ω Av nv Kv):=λa=>aa (a.bk U g1) rfl;have c1:∀{h'},Nw h1 h'->ldC h' h.next 1=η (ω Aa na Ka):=λa=>aa (a.bk U g1) rfl;have c2:∀{h'},Nw h1 h'->ldC h' h.next 2=η (ω At nt Kt):=λa=>aa (a.bk U g1) rfl;have bN:∀{h'},Nw h1 h'->au h' h.next 0 3=η [ω Av nv Kv,ω Aa na Ka,ω At nt Kt]:=λa=>aK (c0 a) (c1 a) (c2 a);refine⟨_,_,_,_,_,_,_,_,_,bN (Nw.refl _),pH (Z.nw k1) λy h2 k2 hy=>⟨y,rfl,λ_=>?_,λhf=>absurd (hy.2 ⟨U,U⟩) (by rw[hf];exact λh=>Bool.noConfusion h)⟩⟩;have k12:=k1.trans k2;refine⟨_,_,_,_,_,_,_,_,_,bN k2,pH (Z.nw k12) λy h3 k3 hy=>⟨y,rfl,λ_=>?_,λhf=>absurd (hy.2 ⟨U,U⟩) (by rw[hf];exact λh=>Bool.noConfusion h)⟩⟩;have k23:=k2.trans k3;have k13:=k12.trans k3;have hta:=ab.to_lt ok ha;have hfb:=ab.fr_lt ok hb;obtain⟨b6,o6,u,v,w,hA6,-,hl6,hu,-,f1,-⟩:=(Z.nw k13).xa.tri (k:=a) U;have harc:N.arc a=(u,v,w):=by unfold ab.arc;rw[hu];rfl
 have hv':v=(N.to a:Int):=by have:=hta.2;rw[harc]at this;exact this
 subst hv';obtain⟨b7,o7,u2,v2,w2,hA7,-,-,hu2,f0,-,-⟩:=(Z.nw k13).xa.tri (k:=b) U;have harc2:N.arc b=(u2,v2,w2):=by unfold ab.arc;rw[hu2];rfl
 have hu2':u2=(N.fr b:Int):=by have:=hfb.2;rw[harc2]at this;exact this
 subst hu2';refine⟨_,_,_,c1 k23,a,rfl,b6,o6,hA6,U,_,f1,_,_,_,c1 k23,b,rfl,b7,o7,hA7,U,_,f0,λhe=>?_,λhne=>?_⟩
 .have hab:N.to a=N.fr b:=U;obtain⟨htk,t,x,g1',g2',g3',g4',g5'⟩:=ab.tab_ok ok hta.1;obtain⟨ty,hty⟩:=Int.eq_ofNat_of_zero_le g4';obtain⟨b8,o8,u3,v3,w3,hA8,-,hl8,hu3,-,-,f2⟩:=(Z.nw k13).vs.tri (k:=N.to a) (by have:=hta.1;omega);have hx3:x=(u3,v3,w3):=Option.some.inj (g1'.symm.trans hu3);subst hx3;simp only at hty g2' g4' g5';subst hty;obtain⟨b9,o9,p',q',A',n',K',zs,hA9,hF9,hl9,htt,t0,t1,t2,sz⟩:=(Z.old.nw k13).ts.tableZ (k:=ty) U;have h9:N.ts[ty]? = η t:=by simpa using g2'
  have hzt:N.tab (N.to a)=(p',q',zs):=g3'.symm.trans (Option.some.inj (h9.symm.trans htt));refine⟨_,_,_,c1 k23,b6,o6,hA6,U,_,f1,_,_,_,c2 k23,_,_,_,c0 k23,N.to a,rfl,b8,o8,hA8,by have:=hta.1;omega,_,f2,ty,rfl,b9,o9,hA9,U,_,_,_,_,_,aK t0 t1 t2,_,_,_,_,_,_,_,_,_,bN k23,_,_,_,_,_,_,_,_,_,bN k23,?_⟩;refine GU (Z.nw k13) ok hna λA22 K22 h4 s4 k4=>⟨_,_,_,rfl,?_⟩;have k34:=k23.trans k4;have EA:aS (.agg #[ω Av nv Kv,ω Aa na Ka,ω At nt Kt]):=yi (uY _ _ _ _) (uY _ _ _ _) (uY _ _ _ _);have ET:aS (.agg #[ξ ψ p',ξ ψ q',ω A' n' K']):=yi trivial trivial (uY _ _ _ _);have d4:∀{h'},Nw h3 h'->au h' b9 (o9+ty*3) 3=η [ξ ψ p',ξ ψ q',ω A' n' K']:=λa=>aK ((a.ldC hl9 _).trans t0) ((a.ldC hl9 _).trans t1) ((a.ldC hl9 _).trans t2);have d2:∀{h'},Nw h3 h'->ldC h' b8 (o8+N.to a*3+2)=η (ξ ψ (ty:Int)):=λa=>(a.ldC hl8 _).trans f2;subst hA8 hA9;have le1:=gf N.xa N.na (false,N.to a);have le2:=gf N.xa N.na (true,N.to a);refine⟨bN k34,EA,d4 k4,ET,d2 k4,c0 k34,c2 k34,yl s4 U a ?_⟩;rw[if_pos (je.2 ⟨ha,BD ha ok⟩)];refine⟨_,rfl,bN k34,EA,d4 k4,ET,d2 k4,c0 k34,c2 k34,FK (Z.nw (k13.trans k4)) ok hna λA23 K23 h6 s6 k6=>⟨_,_,_,rfl,?_⟩⟩;have k46:=k34.trans k6;have k36:=k4.trans k6;refine⟨d4 k36,ET,d2 k36,c0 k46,c2 k46,yl s6 U b ?_⟩;rw[if_pos (je.2 ⟨hb,by rw[hab];exact BE hb ok⟩)];refine⟨_,rfl,d4 k36,ET,d2 k36,c0 k46,c2 k46,?_⟩;have htk':cM p' q' zs:=by rw[hzt]at htk;exact htk
  refine Cs (t:=(p',q',zs)) (sz.nw k36) htk' λh8 k8=>⟨_,rfl,?_⟩;have:=hK h8 ((k13.trans k36).trans k8);rw[Dt ok ha hb hab,hzt]at this;exact this
 .have:=hK h3 k13;rw[ab.turn,if_neg (λh=>hne (by rw[h.2.2]))]at this;exact this
end
end Eva
end
end Go.Proofs.YtmbadhdpcdbdbaaGreatDoor
