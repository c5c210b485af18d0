/-
Lemmas for TopAlone. No condition.
-/
import Derived.Test.YtaagdjkinbemcaaGreatDoorPn
import Derived.Test.YtaagdjkinbemcaaGreatDoorPm
import Derived.Test.YtaagdjkinbemcaaGreatDoorPg
namespace Go.Proofs.YtaagdjkinbemcaaGreatDoor
open _root_.Go.IntKind renaming i64->ξ
open _root_.Go.Value renaming int->ω,slice->Y
open _root_.Option renaming none->η,some->ψ
set_option linter.unusedVariables false
set_option linter.unusedSimpArgs false
set_option linter.unusedSectionVars false
set_option linter.unnecessarySimpa false
open Go Go.RowKit
theorem Gu {cap lim load x y e:Int}(h:rh cap lim load x y=ψ e):e=13\/e=12\/e=14:=by
 unfold rh at h
 split at h
 .exact .inl (Option.some.inj h).symm
 .split at h
  .exact .inr (.inl (Option.some.inj h).symm)
  .split at h
   .exact .inr (.inl (Option.some.inj h).symm)
   .split at h
    .exact .inr (.inr (Option.some.inj h).symm)
    .split at h
     .exact .inr (.inr (Option.some.inj h).symm)
     .cases h
namespace Eva
section
variable {h h':AH}{F G H Fl E:Nat->Prop}{Q:Value->AH->Prop}{A Av Aa At Ap Al Ar As:Option Addr}{n K nv Kv na Ka nt Kt np Kp nl Kl nr Kr ns Ks g o C:Nat}{N:ab}{p:List (List Int)}{ls:List (List eQ)}{costs:List Int}{d cap lim:Int}{st:List (Int×Int)}
theorem JX (hl0:Sz (Rc.sliceZ gm) Fl h Al nl Kl ls) (hmx:nl<=9223372036854775807) (hK:∀b:Bool,(b=true->nl<=6/\∀l∈ls,l.length<=300)->Q (.bool b) h):WC Tryz.prog 6 [Y Al nl Kl] h Q:=by
 have hll:=hl0.len;refine BC ⟨λm x h1=>h1=h/\∃i:Nat,x=i/\i<=nl/\m=nl - i/\∀l∈ls.take i,l.length<=300,nl,⟨rfl,0,rfl,Nat.zero_le _,rfl,by simp⟩,?_⟩;rintro m x h1 ⟨rfl,i,rfl,hi,rfl,hq⟩;refine⟨λhlt=>?_,λhge=>⟨λh6=>hK true λ_=>⟨U,?_⟩,λh6=>hK false λh=>Bool.noConfusion h⟩⟩
 .obtain⟨b,o,A2,n2,K2,l,hA,-,-,hx,e0,sl⟩:=hl0.rowZ (k:=i) U;have hn2:=sl.len;refine⟨i,rfl,b,o,hA,U,_,_,_,e0,λhbig=>hK false λh=>Bool.noConfusion h,λhle=>⟨_,?_,nl - (i+1),U,rfl,i+1,rfl,U,rfl,λy hy=>?_⟩⟩
  .rw[Int.natCast_succ];exact ae U U
  .rw[List.take_add_one,hx]at hy;rcases List.mem_append.1 hy with hy | hy
   .exact hq y hy
   .have:y=l:=by simpa using hy
    rw[this];omega
 .rw[List.take_of_length_le U]at hq;exact hq
theorem Gv (hK:Q (.bool true) h):WC Tryz.prog 4 [] h Q:=WC.orc (by rfl) hK
def JY (N:ab) (d cap lim:Int) (st:List (Int×Int)) (lo n':Nat) (h:AH) (e1:Option (Nat×Value)):Prop:=
 (e1=η/\(∀s∈st,nX N d cap lim s η)/\(st.length=1->n' = 1))\/
 ∃(i:Nat) (s:Int×Int) (e:Int),st[i]? = ψ s/\(∀(j:Nat) (s':Int×Int),j<i->st[j]? = ψ s'->nX N d cap lim s' η)/\nX N d cap lim s (ψ e)/\iH h lo (ac e1) mC ((i+1:Nat):Int) e
theorem EN {Fa Fo:Nat->Prop}(G:gS h Fa F g N) (O:fE h Fo o N p) (bc:Bk h C (costs.map (Value.int .i64)) 2) (hC:C<h.next) (hco:cZ N p costs) (hsz:N.size p<1000000) (J:gW N.na d cap lim st) (s:Sa jo E h A n K st)
  (hK:∀A' n' K' x e1 h',JY N d cap lim st h.next n' h' e1->Nw h h'->Q (.tuple #[.agg #[Y A' n' K',ω ξ x],ac e1]) h') :
  WC Tryz.prog 10 [.pointer (ψ ⟨g,0,η⟩),.pointer (ψ ⟨o,0,η⟩),Y (ψ ⟨C,0,η⟩) (N.size p) (cx (N.size p)),.agg #[ω ξ d,ω ξ cap,ω ξ lim,Y A n K]] h Q:=
 Cm G O bc hC hco hsz J s (λA' n' K' x h' h1 h2 k=>hK A' n' K' x η h' (.inl ⟨rfl,h1,λe=>h2 (by rw[<-s.len];exact e)⟩) k) λi s e v x h' hs hb hf f k=>by
  obtain⟨b,rfl,f'⟩:=f;exact hK η 0 0 x (ψ (_,_)) h' (.inr ⟨i,s,e,hs,hb,hf,b,rfl,f'⟩) k
theorem EO (Z0:jr h F Av nv Kv Aa na Ka At nt Kt N) (hs0:Sz (Rc.sliceZ cI) G h Ap np Kp p) (hmx:np<=9223372036854775807) (hl0:Sz (Rc.sliceZ gm) Fl h Al nl Kl ls) (hml:nl<=9223372036854775807) (hj0:Sz jo H h As ns Ks st) :
  WC Tryz.prog 3 [.agg #[Y Av nv Kv,Y Aa na Ka,Y At nt Kt],.agg #[Y Ap np Kp],Y Al nl Kl,.agg #[ω ξ d,ω ξ cap,ω ξ lim,Y As ns Ks]] h (λv h'=>v = .bool true/\Nw h h'):=by
 have Z:=Z0.old;have hs:Sz (Rc.sliceZ cI) (λz=>z<h.next) h Ap np Kp p:=hs0.mono λz _ hz=>hz;have hl:Sz (Rc.sliceZ gm) (λz=>z<h.next) h Al nl Kl ls:=hl0.mono λz _ hz=>hz;have hj:Sz jo (λz=>z<h.next) h As ns Ks st:=hj0.mono λz _ hz=>hz;have la:N.na=na:=Z.xa.len;have lp:p.length=np:=hs.len;have lj:=hj.len;refine qu λh1 e1 h2 e2 h3 e3=>?_;obtain⟨k1,g1,z1⟩:=aj e1;obtain⟨k2,g2,z2⟩:=aj e2;obtain⟨k3,z3,ldJ⟩:=mw e3;have k13:=(k1.trans k2).trans k3;have g13:=(k2.trans k3).bk U g1;have g23:=k3.bk U g2;have bN:∀{h'},Nw h3 h'->aB h' h.next 0 3=ψ [Y Av nv Kv,Y Aa na Ka,Y At nt Kt]:=λa=>bi (aa (a.bk U g13) rfl) (aa (a.bk U g13) rfl) (aa (a.bk U g13) rfl);have bA:∀{h'},Nw h3 h'->ldC h' h.next 1=ψ (Y Aa na Ka):=λa=>aa (a.bk U g13) rfl;have bQ:∀{h'},Nw h3 h'->ldC h' h1.next 0=ψ (Y Ap np Kp):=λa=>aa (a.bk U g23) rfl;have bJ:∀{h'},Nw h3 h'->aB h' h2.next 0 4=ψ [ω ξ d,ω ξ cap,ω ξ lim,Y As ns Ks]:=λa=>(ldJ _ a).2.2.2.2;refine Gv ⟨true,rfl,λ_=>⟨_,_,_,_,_,_,_,_,_,bN (Nw.refl _),_,_,_,fK (bQ (Nw.refl _)),La (Z.nw k13) (hs.nw k13) hmx λb2 h4 k4 hb2=>⟨b2,rfl,λht=>?_,λ_=>⟨rfl,k13.trans k4⟩⟩⟩,λh=>Bool.noConfusion h⟩;obtain⟨hf,ok,hv60,hp10,hp60,hp⟩:=hb2 ht;have k04:=k13.trans k4;refine JX (hl.nw k04) hml λb3 hb3=>⟨b3,rfl,λht3=>⟨_,_,_,(ldJ _ k4).2.2.2.1,λ_=>⟨rfl,k04⟩,λhle=>?_⟩,λ_=>⟨rfl,k04⟩⟩;obtain⟨hl6,hl3⟩:=hb3 ht3;have hns:ns<=10:=U;have hnp6:np<=6:=by have:=hp.few;omega
 have hna3:N.na<=300:=hf.2.1;refine⟨_,_,_,bA k4,_,_,_,_,_,_,bJ k4,Ci (na:=na) (hj.nw k04) hns U λA14 n14 K14 x7 h7 k7 hJob=>⟨_,_,_,_,rfl,λhx=>?_,λ_=>⟨rfl,k04.trans k7⟩⟩⟩;have J:=hJob hx;have hnpos:0<na:=by have:=J.d_;omega
 have k37:=k4.trans k7;have k07:=k13.trans k37;obtain⟨M,hM⟩:∃M,N.behind ls=M:=⟨_,rfl⟩;have S:=ab.behind_shp ls N;have okM:=ab.behind_ok ls ok;refine⟨_,_,_,_,_,_,_,_,_,bN k37,_,_,_,fK (bQ k37),Ie (Z.nw k07) hf ok hnpos (hs.nw k07) hp (hl.nw k07) U hl3 λg o C costs h8 R8 k8=>⟨_,_,_,_,_,_,rfl,λ_=>?_,λh=>Bool.noConfusion h⟩⟩;rw[hM]at R8 S okM;have Kd:aP M.nv p:=by rw[S.nv];exact hp
 have hnaM:M.na<=300:=by rw[S.na];exact hna3
 have hszE:M.size p=N.size p:=S.size;rw[<-hszE];obtain⟨⟨Fa,Ft,F',X,lo,Fo,O,lo2,nC⟩,cs,cp,co,nn⟩:=R8;have JM:gW M.na d cap lim st:=by rw[S.na,la];exact J
 have hsz:M.size p<1000000:=ml hnaM Kd.few;have k38:=k37.trans k8;have k08:=k13.trans k38;refine⟨_,_,_,_,_,_,bJ k38,JK (hj.nw k08) hns λA21 K21 h9 s9 k9=>⟨_,_,_,_,_,_,rfl,λh10 e10=>?_⟩⟩;obtain⟨h11,s11,k11',g11,z11⟩:=aD (vs:=[ω ξ d,ω ξ cap,ω ξ lim,Y A21 ns K21]) e10 rfl (by simp[flat]);have k11:=k9.trans k11';have ldK:∀{h'},Nw h11 h'->ldC h' h9.next 3=ψ (Y A21 ns K21)/\aB h' h9.next 0 4=ψ [ω ξ d,ω ξ cap,ω ξ lim,Y A21 ns K21]:=fun {h'} a=>by
  have b':Bk h' h9.next _ _:=a.bk U g11;exact⟨aa b' rfl,by rw[bo b' (by simp)];rfl⟩
 have s11':=s9.nw k11';refine⟨h11,s11,_,_,_,_,_,_,(ldK (Nw.refl _)).2,?_⟩;have gr:∀{h'},Nw h8 h'->gS h' Fa _ g M:=λa=>X.gr.nw a;refine EN (gr k11) (O.nw k11) (k11.bk cp.2 cs) (by have:=k11.next;omega) co hsz JM s11' λA23 n23 K23 x17 e1 h12 R12 k12=>⟨_,_,_,_,e1,rfl,λh13 e13=>?_⟩;obtain⟨h14,s14,k14',g14,z14⟩:=aD (vs:=[Y A23 n23 K23,ω ξ x17]) e13 rfl (cR rfl rfl);have k1114:=k12.trans k14';have k814:=k11.trans k1114;have k014:=k08.trans k814;have whole:∀{h'},Nw h12 h'->∀i s e,st[i]? = ψ s->(∀j s',j<i->st[j]? = ψ s'->nX M d cap lim s' η)->nX M d cap lim s (ψ e)->e1≠η/\iH h' h11.next (ac e1) mC ((i+1:Nat):Int) e:=fun {h'} k i s e hs hb hfe=>by
  rcases R12 with⟨-,hall,-⟩ | ⟨i0,s0,e0,hs0',hb0,hf0,f0⟩
  .have:=(hall s (List.mem_of_getElem? hs)).one hfe;cases this
  .have hii:i0=i:=by
    rcases Nat.lt_trichotomy i0 i with h | h | h
    .have:=(hb i0 s0 h hs0').one hf0;cases this
    .exact h
    .have:=(hb0 i s h hs).one hfe;cases this
   subst hii;rw[hs]at hs0';obtain rfl:=Option.some.inj hs0';have:=hfe.one hf0;obtain rfl:=Option.some.inj this;refine⟨λhn=>?_,f0.nw k (Nat.le_refl _)⟩;obtain⟨b,hv,-⟩:=f0;rw[hn]at hv;cases hv
 refine⟨h14,s14,λm x h15=>∃i:Nat,x=i/\i<=ns/\m=ns - i/\(∀j s',j<i->st[j]? = ψ s'->nX M d cap lim s' η)/\Nw h14 h15,ns,⟨0,rfl,Nat.zero_le _,rfl,λj s' hj=>absurd hj (Nat.not_lt_zero _),Nw.refl _⟩,?_⟩;rintro m x h15 ⟨i,rfl,hi,rfl,hbef,k15⟩;have k1115:=k1114.trans k15;have k015:=k014.trans k15;refine⟨_,_,_,(ldK k1115).1,λhlt=>?_,λhge=>?_⟩
 .have hil:i<ns:=U;refine⟨_,_,_,_,_,_,(ldK k1115).2,λh16 e16=>?_⟩;obtain⟨h17,s17,k17',g17,z17⟩:=aD (vs:=[ω ξ d,ω ξ cap,ω ξ lim,Y A21 ns K21]) e16 rfl (by simp[flat]);have k1117:=k1115.trans k17';obtain⟨b,ob,x1,x2,hA,-,-,hx,v1,v2⟩:=(s11'.nw k1117).pair hil;refine⟨h17,s17,_,_,_,(ldK k1117).1,i,rfl,b,ob,hA,hil,x1,x2,kT v1 v2,λh18 e18=>?_⟩;obtain⟨k18,g18,z18⟩:=aj e18;obtain⟨h19,s19,b19,z19,o19⟩:=ax (v:=Y (ψ ⟨h17.next,0,η⟩) 1 2) (k18.bk U g17) (o:=3) (by simp) rfl;have z15:=k1115.next;have z17':=k17'.next;have k1119:Nw h11 h19:=⟨U,λb hb=>(o19 b U).trans ((k18.get b U).trans (k1117.get b hb))⟩;have g19:Bk h19 h17.next [ω ξ x1,ω ξ x2] 57:=(o19 _ U).trans g18;have sOne:Sa jo (λ_=>True) h19 (ψ ⟨h17.next,0,η⟩) 1 2 [(x1,x2)]:=Sa.of_bk g19 rfl trivial U λk x hk=>by
   match k,hk with
   | 0,hk=>obtain rfl:=Option.some.inj hk;rfl
   | k+1,hk=>simp at hk
  have JO:gW M.na d cap lim [(x1,x2)]:=⟨JM.d_,JM.cap_,JM.lim_,by simp,λs hs=>by
   obtain rfl:=List.mem_singleton.1 hs;exact JM.st_ _ (List.mem_of_getElem? hx)⟩
  have k819:=k11.trans k1119;refine⟨h19,s19,_,_,_,_,_,_,by rw[bo b19 (by simp)];rfl,EN (gr k819) (O.nw k819) (k819.bk cp.2 cs) (by have:=k819.next;omega) co hsz JO sOne λA28 n28 K28 x27 e2 h20 R20 k20=>⟨_,_,_,_,e2,rfl,λh21 e21=>?_⟩⟩;obtain⟨h22,s22,k22',g22,z22⟩:=aD (vs:=[Y A28 n28 K28,ω ξ x27]) e21 rfl (cR rfl rfl);have k1922:=k20.trans k22';have k1419:Nw h14 h19:=⟨by have a1:=k15.next;have a2:=k17'.next;have a3:=k18.next;omega,λb hb=>(o19 b (by have:=k15.next;omega)).trans ((k18.get b (by have:=k15.next;omega)).trans ((k17'.get b (by have:=k15.next;omega)).trans (k15.get b hb)))⟩;have k1422:=k1419.trans k1922;have w1:IntKind.i64.wrap ((i:Int)+1)=((i+1:Nat):Int):=ae U U;refine⟨h22,s22,λhe2=>⟨_,_,_,aa g22 rfl,λ_=>⟨_,w1,ns - (i+1),U,i+1,rfl,hil,rfl,λj s' hj hs'=>?_,k1422⟩,λhne=>absurd ?_ hne⟩,λt u he2=>?_⟩
  .rcases R20 with⟨-,hall,-⟩ | ⟨i0,s0,e0,-,-,-,b,hv,-⟩
   .by_cases hji:j<i
    .exact hbef j s' hji hs'
    .have:j=i:=U;subst this;rw[hx]at hs';obtain rfl:=Option.some.inj hs';exact hall _ (List.mem_singleton.2 rfl)
   .rw[he2]at hv;cases hv
  .rcases R20 with⟨-,-,h1⟩ | ⟨i0,s0,e0,-,-,-,b,hv,-⟩
   .rw[h1 rfl];rfl
   .rw[he2]at hv;cases hv
  .rcases R20 with⟨h1,-⟩ | ⟨i0,s0,e0,hs0',-,hf0,f0⟩
   .rw[h1]at he2;cases he2
   have hi0:i0=0:=by have:=(List.getElem?_eq_some_iff.1 hs0').1;simp at this;exact this
   subst hi0;obtain rfl:=Option.some.inj hs0';obtain⟨hne1,fw⟩:=whole (k14'.trans k1422) i (x1,x2) e0 hx hbef hf0;have hE:e0=13\/e0=12\/e0=14:=by
    obtain⟨y1,y2,-,-,h3⟩:=hf0;exact Gu h3.symm
   have f22:=f0.nw k22' (Nat.le_refl _);have hiv:ac e2 = .iface t u:=by rw[he2];rfl
   refine λh23 e23=>?_;obtain⟨k23,g23',z23⟩:=aj e23;refine⟨λm x h24=>∃k:Nat,x=k/\k<=3/\m=3 - k/\Nw h23 h24/\(0<k->e0≠13)/\(1<k->e0≠12)/\(2<k->e0≠14),3,⟨0,rfl,U,rfl,Nw.refl _,U,U,U⟩,?_⟩;rintro m x h24 ⟨k,rfl,hk,rfl,k24,n1,n2,n3⟩;refine⟨λhlt=>?_,λhge=>?_⟩
   .obtain⟨wv,hwv,hw0⟩:∃wv:Int,([13,12,14]:List Int)[k]? = ψ wv/\wv≠0:=by
     match k,hlt with
     | 0,_=>exact⟨13,rfl,by decide⟩
     | 1,_=>exact⟨12,rfl,by decide⟩
     | 2,_=>exact⟨14,rfl,by decide⟩
     | k+3,h=>exact absurd h U
    refine⟨k,rfl,U,wv,by
     have:Bk h24 h22.next (([13,12,14]:List Int).map (Value.int .i64)) 3:=k24.bk U g23';rw[aJ this,Nat.zero_add,List.getElem?_map,hwv];rfl,IF λA30 h25 p25 k25=>⟨_,_,_,_,rfl,?_⟩⟩
    have k2225:=(k23.trans k24).trans k25;rw[<-hiv];refine EM (e1:=e2) (.inr (f22.nw k2225 (Nat.le_refl _))) p25 hw0 λb5 h26 hb5 k26=>⟨b5,rfl,λhtr=>⟨_,w1,IF λA31 h27 p27 k27=>⟨_,_,_,_,rfl,?_⟩⟩,λhfa=>⟨_,ae U U,3 - (k+1),U,k+1,U,U,rfl,(k24.trans k25).trans k26,λ_=>?_,λ_=>?_,λ_=>?_⟩⟩
    .obtain⟨-,-,he⟩:=hb5.1 htr;refine EM (e1:=e1) (.inr (fw.nw ((k2225.trans k26).trans k27) (Nat.le_refl _))) p27 hw0 λb6 h28 hb6 k28=>⟨b6,rfl,?_,?_⟩
     .rw[hb6.2 ⟨hne1,rfl,he⟩]
     .exact((((k014.trans k1422).trans k2225).trans k26).trans k27).trans k28
    all_goals
     have hne:¬e0=wv:=λhe=>by
      have:=hb5.2 ⟨by rw[he2];simp,rfl,he⟩;rw[hfa]at this;exact Bool.noConfusion this
    .by_cases hk0:0<k
     .exact n1 hk0
     .have:k=0:=U;subst this;obtain rfl:=Option.some.inj hwv;exact hne
    .by_cases hk0:1<k
     .exact n2 hk0
     .have:k=1:=U;subst this;obtain rfl:=Option.some.inj hwv;exact hne
    .by_cases hk0:2<k
     .exact n3 hk0
     .have:k=2:=U;subst this;obtain rfl:=Option.some.inj hwv;exact hne
   .have hk3:k=3:=U;subst hk3;rcases hE with h | h | h
    .exact absurd h (n1 U)
    .exact absurd h (n2 U)
    .exact absurd h (n3 U)
 .obtain rfl:i=ns:=U;refine⟨λ_=>⟨rfl,k015⟩,λt u he1=>?_⟩;rcases R12 with⟨h1,-⟩ | ⟨i0,s0,e0,hs0',-,hf0,-⟩
  .rw[h1]at he1;cases he1
  .have:=(hbef i0 s0 (by have:=(List.getElem?_eq_some_iff.1 hs0').1;omega) hs0').one hf0;cases this
end
end Eva
end Go.Proofs.YtaagdjkinbemcaaGreatDoor
