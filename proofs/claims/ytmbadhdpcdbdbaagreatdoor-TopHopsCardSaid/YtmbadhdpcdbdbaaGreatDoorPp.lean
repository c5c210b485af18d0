/-
Lemmas for TopHops. No condition.
-/
import Derived.Test.YtmbadhdpcdbdbaaGreatDoorPo
import Derived.Test.YtmbadhdpcdbdbaaGreatDoorPj
import Derived.Test.YtmbadhdpcdbdbaaGreatDoorPk
import Derived.Test.YtmbadhdpcdbdbaaGreatDoorPm
import Derived.Test.YtmbadhdpcdbdbaaGreatDoorPi
namespace Go.Proofs.YtmbadhdpcdbdbaaGreatDoor
open _root_.Go.IntKind renaming i64->ν
open _root_.Go.Value renaming int->η,pointer->μ,slice->ω
open _root_.Option renaming none->ψ,some->ξ
set_option linter.unusedVariables false
set_option linter.unusedSimpArgs false
set_option linter.unusedSectionVars false
set_option linter.unnecessarySimpa false
section
open Go Go.RowKit
namespace Eva
section
variable {h h' h0:AH}{Q:Value->AH->Prop}{Fa F Fo:Nat->Prop}{N:ab}{p:List (List Int)}{g o C q mp bf dn hp n:Nat}{cA:Option Addr}{cK:Nat}{rd lp:Int}{D D' S S':Nat->Prop}{a k cell s t:Nat}{costs:List Int}{done w:Nat->Option Nat}{par:Nat->Nat}
theorem PA.leaps (B:PA h0 N p g o C q mp bf dn hp cA cK rd lp D h):∃h',iE h q (0+9) [η ν (lp+1)]=ξ h'/\PA h0 N p g o C q mp bf dn hp cA cK rd (lp+1) D h'/\Mt (λb=>b=q) h h'/\h'.next=h.next:=by
 obtain⟨P1,P2,P3,P4,P5,P6,P7,P8,P9,P10,P11,P12,P13,P14⟩:=B.pos;obtain⟨h4,s4,b4,z4,o4⟩:=aD (v:=η ν (lp+1)) B.blk (o:=9) (by simp) rfl;have m4:Mt (λb=>b=q) h h4:=⟨U,λb _ hb=>o4 b hb⟩;refine⟨h4,by rw[Nat.zero_add];exact s4,?_,m4,z4⟩;obtain⟨f,f1,f2⟩:=B.map_;have nD:∀b,D b->¬b=q:=λb hd=>(B.dlo b hd).2.2.1;refine⟨m4.is_nw B.nw λb hb=>U,b4,B.cells.off m4 nD,⟨f,f1.keep (o4 _ (Ne.symm P4)),λl c v hv=>?_⟩,λb hb=>by have:=B.dlo b hb;omega,U⟩;obtain⟨A,K,B',L,e,s1,s2⟩:=f2 l c v hv;exact⟨A,K,B',L,e,s1.off m4 nD,s2.off m4 nD⟩
theorem RP.off (R:RP h0 q mp bf dn hp n D S rd done w par h) (hpos:dn<h.next/\bf<h.next){M:Nat->Prop}(m:Mt M h h') (hM:∀b,M b->b≠dn/\b≠bf/\¬S b):RP h0 q mp bf dn hp n D S rd done w par h':=by
 obtain⟨dl,d1,d2⟩:=R.dnb;have z:=m.next;refine⟨⟨dl,m.bk hpos.1 (λhs=>(hM _ hs).1 rfl) d1,d2⟩,m.bk hpos.2 (λhs=>(hM _ hs).2.1 rfl) R.bf_,R.heap.off m λb hb hs=>(hM b hs).2.2 hb,λb hb=>?_⟩;obtain⟨s1,s2,s3⟩:=R.sep b hb;exact⟨s1,U,s3⟩
set_option maxRecDepth 100000 in
theorem EB (G:eA h0 Fa F g N) (O:eL h0 Fo o N p) (bc:Bk h0 C (costs.map (Value.int .i64)) 2) (hC:C<h0.next) (hco:bG N p costs) (hsz:N.size p<1000000) (hna3:N.na<=300) :
  ∀(k:Nat){h:AH}{Q:Value->AH->Prop}{rd lp:Int}{D S:Nat->Prop}{done w:Nat->Option Nat}{par:Nat->Nat}{s t:Nat}(B:PA h0 N p g o C q mp bf dn hp cA cK rd lp D h) (R:RP h0 q mp bf dn hp N.na D S rd done w par h)
   (h1:1<=k) (hkl:k<=p.length) (hs:s<N.na) (hin:N.inA p k (ap p k (N.to s)) s) (ht:t∈N.outs p k (ap p k (N.to s))) (hent:N.ent p costs k s t<an) (hrd:0<=rd/\rd+(ez k:Nat)<=9000000000000000000) (hlp:0<=lp/\lp+(ez k:Nat)<=9000000000000000000)
   (hK:∀(A:Option Addr) (K:Nat) (l:List Nat) (D' S':Nat->Prop) (done' w':Nat->Option Nat) (par':Nat->Nat) (rd' lp':Int) (h':AH),Sa cI (λb=>h.next<=b/\¬D' b/\¬S' b) h' A l.length K (ints l)->bm N.e N.tr (N.win p k (ap p k (N.to s))) t s (N.ent p costs k s t).toNat l->l.length<=gm (N.xlev p) N.na k->
    PA h0 N p g o C q mp bf dn hp cA cK rd' lp' D' h'->RP h0 q mp bf dn hp N.na D' S' rd' done' w' par' h'->(0<=rd'/\rd'<=rd+(ez k:Nat))->(0<=lp'/\lp'<=lp+(ez k:Nat))->Mt (λb=>b=q\/b=mp\/b=bf\/b=dn\/S b) h h'->(∀b,D' b->D b\/h.next<=b)->(∀b,S' b->S b\/h.next<=b)->Q (.tuple #[ω A l.length K,.bool true]) h'),
  WC Tryz.prog 44 [μ (ξ ⟨q,0,ψ⟩),η ν k,η ν s,η ν t] h Q
 | 0,h,Q,rd,lp,D,S,done,w,par,s,t,B,R,h1,hkl,hs,hin,ht,hent,hrd,hlp,hK=>absurd h1 U
 | k+1,h,Q,rd,lp,D,S,done,w,par,s,t,B,R,h1,hkl,hs,hin,ht,hent,hrd,hlp,hK=>by
  have hok:=G.ok;have hpo:=O.hp;have hp6:=hpo.few;obtain⟨P1,P2,P3,P4,P5,P6,P7,P8,P9,P10,P11,P12,P13,P14⟩:=B.pos;have hT:((ez (k+1):Nat):Int)=1+302*(ez k:Nat):=by simp[ez]
  have hT0:(0:Int)<=(ez k:Nat):=Int.natCast_nonneg _;obtain⟨h2,s2,B2,m2,z2⟩:=B.leaps;have R2:=R.off ⟨P11,P9⟩ m2 λb (hb:b=q)=>⟨U,U,λhs=>(R.sep b hs).2.2.1 hb⟩;obtain⟨cell,hcell⟩:∃cell,ap p (k+1) (N.to s)=cell:=⟨_,rfl⟩;rw[hcell]at hin ht hK;refine jR ⟨q,0,rfl,lp,aa B.blk rfl,lp+1,af U U,h2,s2,?_⟩;refine fSq B2 R2 G O bc hC hco hsz h1 hkl hs hcell hin ht hent U λA K ls D2 S2 done2 w2 par2 h3 s3 r3 nd3 l3 B3 R3 m3 hD2 hS2=>⟨A,ls.length,K,true,rfl,λ_=>⟨λhk1=>?_,λhk1=>?_⟩,λh=>Bool.noConfusion h⟩
  .obtain rfl:k=0:=U;have m03:Mt (λb=>b=q\/b=mp\/b=bf\/b=dn\/S b) h h3:=(m2.mono λb hb _=>.inl hb).trans m3 λb hb _=>hb;refine hK A K ls D2 S2 done2 w2 par2 (rd+1) (lp+1) h3 (s3.mono λb hb _=>⟨U,hb.2⟩) (BI r3) ?_ B3 R3 ⟨U,U⟩ ⟨U,U⟩ m03 (λb hb=>(hD2 b hb).imp id λh=>U) (λb hb=>(hS2 b hb).imp id λh=>U);have:=rf hok hpo h1 hkl r3 nd3;simpa[gm]using this
  .have hk2:2<=k+1:=U;have hsl:=rf hok hpo h1 hkl r3 nd3;have z3:=m3.next;have hpr:gm (N.xlev p) N.na (k+1)<=17596287801:=pi hna3 U;have hpe:gm (N.xlev p) N.na (k+1)=gm (N.xlev p) N.na k*(fo (N.xlev p) (k+1) N.na+1):=rfl;obtain⟨pr,hpr_⟩:∃pr,gm (N.xlev p) N.na k=pr:=⟨_,rfl⟩;rw[hpr_]at hpe;obtain⟨T,hT_⟩:∃T,ez k=T:=⟨_,rfl⟩;rw[hT_]at hT hT0;have wk:IntKind.i64.wrap (((k+1:Nat):Int) - 1)=(k:Int):=by rw[af U U];omega
   obtain⟨E,hE⟩:∃E:Nat->Prop,∀b,E b↔h2.next<=b/\b<h3.next/\¬D2 b/\¬S2 b:=⟨_,λ_=>Iff.rfl⟩;have s3':Sa cI E h3 A ls.length K (ints ls):=s3.mono λb hb hlt=>(hE b).2 ⟨hb.1,hlt,hb.2⟩;have m03:Mt (λb=>b=q\/b=mp\/b=bf\/b=dn\/S b) h h3:=(m2.mono λb hb _=>.inl hb).trans m3 λb hb _=>hb;obtain⟨J,hJ⟩:∃J:Nat->Int->Option Addr->Nat->Nat->Int->AH->Prop,∀m x A2 n2 K2 y hh,J m x A2 n2 K2 y hh↔∃(j cur:Nat) (l1:List Nat) (D4 S4:Nat->Prop) (done4 w4:Nat->Option Nat) (par4:Nat->Nat) (rd4 E1:Int),x=cur/\y=j/\j<=ls.length/\m=ls.length - j/\n2=l1.length/\sS N p (k+1) cell (N.ent p costs) s t (N.ent p costs (k+1) s t).toNat ls j cur l1/\
     al cI hh (ah A2) 3 A2 n2 K2 (ints l1)/\(∀z,ah A2 z->h3.next<=z/\¬D4 z/\¬S4 z)/\l1.length<=j*pr/\PA h0 N p g o C q mp bf dn hp cA cK rd4 E1 D4 hh/\RP h0 q mp bf dn hp N.na D4 S4 rd4 done4 w4 par4 hh/\(0<=rd4/\rd4<=rd+1+(j*T:Nat))/\(0<=E1/\E1<=lp+1+(j*T:Nat))/\
     Mt (λb=>b=q\/b=mp\/b=bf\/b=dn\/S b) h hh/\(∀b,D4 b->D2 b\/h3.next<=b)/\(∀b,S4 b->S2 b\/h3.next<=b)/\Sa cI E hh A ls.length K (ints ls)/\h3.next<=hh.next:=⟨_,λ_ _ _ _ _ _ _=>Iff.rfl⟩
   refine⟨J,ls.length,(hJ _ _ _ _ _ _ _).2 ⟨0,s,[],D2,S2,done2,w2,par2,rd+1,lp+1,rfl,rfl,Nat.zero_le _,rfl,rfl,sS.start r3,al.nil _ _ _ _,λz hz=>hz.elim,Nat.zero_le _,B3,R3,⟨U,U⟩,⟨U,U⟩,m03,λb hb=>.inl hb,λb hb=>.inl hb,s3',Nat.le_refl _⟩,λm x A2 n2 K2 y h4 hj=>?_⟩;obtain⟨j,cur,l1,D4,S4,done4,w4,par4,rd4,E1,rfl,rfl,hjl,rfl,rfl,hO,o4,lo4,hl1,B4,R4,hrd4,hlp4,m4,hD4,hS4,s4,z4⟩:=(hJ _ _ _ _ _ _ _).1 hj;obtain⟨q1,q2,q3,q4,q5,q6,q7,q8,q9,q10,q11,q12,q13,q14⟩:=B4.pos;have hEq:∀b,E b->¬(b=q\/b=mp\/b=bf\/b=dn\/S4 b):=λb hb hh=>by
    obtain⟨e1,e2,e3,e4⟩:=(hE b).1 hb;rcases hh with h | h | h | h | h
    .omega
    .omega
    .omega
    .omega
    .rcases hS4 b h with h | h
     .exact e4 h
     .omega
   have hjs:∀i,i<=ls.length->i*pr<=gm (N.xlev p) N.na (k+1):=λi hi=>by
    rw[hpe,Nat.mul_comm pr];exact Nat.mul_le_mul_right _ U
   have hjT:∀i,i<=ls.length->i*T<=301*T:=λi hi=>Nat.mul_le_mul_right _ U;refine⟨λhlt=>?_,λhge=>?_⟩
   .obtain⟨b2,o2,x8,hA,-,-,hx8,e8⟩:=s4.int (k:=j) U;obtain⟨bn,hbn,rfl⟩:∃bn:Nat,ls[j]? = ξ bn/\x8=(bn:Int):=by
     unfold ints at hx8;rw[List.getElem?_map]at hx8;cases hv:ls[j]? with
     | none=>rw[hv]at hx8;cases hx8
     | some bn=>rw[hv]at hx8;exact⟨bn,rfl,(Option.some.inj hx8).symm⟩
    obtain⟨g1,g2,g3,g4,g5⟩:=hO.step hok hpo hk2 hkl hbn;simp only[Nat.add_sub_cancel]at g2 g3 g4 g5;have hj1:=hjs (j+1) U;have hj2:=hjT (j+1) U;rw[Nat.succ_mul]at hj1 hj2;refine⟨j,rfl,b2,o2,hA,U,_,e8,_,wk,?_⟩;refine EB G O bc hC hco hsz hna3 k B4 R4 U U g1 g2 g3 g4 (by rw[hT_];omega) (by rw[hT_];omega) λA3 K3 l2 D5 S5 done5 w5 par5 rd5 HB h5 s5 r5 l5 B5 R5 hrd5 hlp5 m5 hD5 hS5=>⟨A3,l2.length,K3,true,rfl,λ_=>?_,λh=>Bool.noConfusion h⟩;rw[hT_]at hrd5 hlp5;rw[hpr_]at l5;have z5:=m5.next;obtain⟨r1,r2,r3',r4,r5',r6,r7,r8,r9,r10,r11,r12,r13,r14⟩:=B5.pos;have lt4:∀z,ah A2 z->z<h4.next:=λz hz=>o4.own hz;have o5:=o4.off m5 λz hz hlt hh=>by
     obtain⟨e1,e2,e3⟩:=lo4 z hz;rcases hh with h | h | h | h | h
     .omega
     .omega
     .omega
     .omega
     .exact e3 h
    have lo5:∀z,ah A2 z->¬D5 z/\¬S5 z:=λz hz=>⟨λhd=>(hD5 z hd).elim (lo4 z hz).2.1 (λh=>by have:=lt4 z hz;omega),λhd=>(hS5 z hd).elim (lo4 z hz).2.2 (λh=>by have:=lt4 z hz;omega)⟩;obtain⟨A6,K6,h6,y1,y2,y3,y4⟩:=aV (r:=cI) (cE _) dC o5 s5.z U U;have z6:=y3.next;have hM:∀b,ah A2 b->h0.next<=b/\b≠q/\b≠mp/\b≠bf/\b≠dn/\¬D5 b/\¬S5 b:=λb hb=>by
     obtain⟨e1,e2,e3⟩:=lo4 b hb;have:=B.nw.next;exact⟨U,U,U,U,U,(lo5 b hb).1,(lo5 b hb).2⟩
    have B6:=B5.off y3 λb hb=>by have:=hM b hb;exact⟨this.1,this.2.1,this.2.2.1,this.2.2.2.2.2.1⟩
    have R6:=R5.off ⟨r11,r9⟩ y3 λb hb=>by have:=hM b hb;exact⟨this.2.2.2.2.1,this.2.2.2.1,this.2.2.2.2.2.2⟩
    have e12:ints l1 ++ ints l2=ints (l1 ++ l2):=by simp[ints]
    rw[e12]at y2;have hl12:(l1 ++ l2).length=l1.length+l2.length:=List.length_append;refine⟨A6,_,K6,h6,y1,((j+1:Nat):Int),by rw[Int.natCast_succ];exact af U U,ls.length - (j+1),U,(hJ _ _ _ _ _ _ _).2 ⟨j+1,bn,l1 ++ l2,D5,S5,done5,w5,par5,rd5,HB,rfl,rfl,U,rfl,hl12.symm,g5 l2 r5,y2,λz hz=>?_,by rw[hl12,Nat.succ_mul];omega,B6,R6,⟨hrd5.1,by rw[Nat.succ_mul];omega⟩,⟨hlp5.1,by rw[Nat.succ_mul];omega⟩,?_,λb hb=>?_,λb hb=>?_,?_,U⟩⟩
    .rcases y4 z hz with h | h
     .exact⟨(lo4 z h).1,lo5 z h⟩
     .exact⟨U,λhd=>by have:=(B5.dlo z hd).2.1;omega,λhs=>by have:=(R5.sep z hs).2.1;omega⟩
    .have m45:Mt (λb=>b=q\/b=mp\/b=bf\/b=dn\/S b) h h5:=m4.trans m5 λb hb hlt=>by
      rcases hb with h | h | h | h | h
      .exact .inl h
      .exact .inr (.inl h)
      .exact .inr (.inr (.inl h))
      .exact .inr (.inr (.inr (.inl h)))
      .rcases hS4 b h with h | h
       .rcases hS2 b h with h | h
        .exact .inr (.inr (.inr (.inr h)))
        .omega
       .omega
     exact m45.trans y3 λb hb hlt=>by have:=(lo4 b hb).1;omega
    .rcases hD5 b hb with h | h
     .exact hD4 b h
     .right;omega
    .rcases hS5 b hb with h | h
     .exact hS4 b h
     .right;omega
    .refine(s4.off m5 hEq).off y3 λb hb ho=>?_;have:=(hE b).1 hb;have:=(lo4 b ho).1;omega
   .obtain rfl:j=ls.length:=U;have hj1:=hjs ls.length (Nat.le_refl _);have hj2:=hjT ls.length (Nat.le_refl _);refine hK A2 K2 l1 D4 S4 done4 w4 par4 rd4 E1 h4 (o4.sa.mono λz hz _=>⟨by have:=(lo4 z hz).1;omega,(lo4 z hz).2⟩) (hO.all (Nat.le_refl _)) U B4 R4 ⟨hrd4.1,U⟩ ⟨hlp4.1,U⟩ m4 (λb hb=>?_) (λb hb=>?_)
    .rcases hD4 b hb with h | h
     .exact(hD2 b h).imp id λh=>U
     .right;omega
    .rcases hS4 b hb with h | h
     .exact(hS2 b h).imp id λh=>U
     .right;omega
end
end Eva
end
section
open Go Go.RowKit
namespace Eva
section
variable {h h':AH}{Q:Value->AH->Prop}{F G:Nat->Prop}{A B:Option Addr}{n m K L g c:Nat}{xs zs:List Int}
theorem D7 {b:Nat}(o:cm h (ξ ⟨b,0,ψ⟩) n K xs):Sa cI (λz=>z=b) h (ξ ⟨b,0,ψ⟩) n K xs:=by
 obtain⟨hl,o⟩:=o;rcases o with⟨h0,_,_⟩ | ⟨g,c,rest,hA,h1,h2,h3,h4,h5⟩
 .cases h0
 .injection hA with hA;injection hA with hA;subst hA;refine Sa.of_bk h5 hl rfl h1 λk x hx=>?_;show(((xs.map (Value.int .i64) ++ rest).drop (k*1)).take 1)=_;rw[Nat.mul_one];have hk:=(List.getElem?_eq_some_iff.1 hx).1;exact di (by rw[List.getElem?_append_left (by simpa using hk)];simp[hx])
theorem cm.apps (o:cm h (ξ ⟨g,0,ψ⟩) n (cl c) xs) (hz:Sz cI F h B m L zs) (hr:n+m<=c) (hc:c<8000000000000) :
  ∃h1,ai Tryz.prog h (ξ (.slice 3)) (ξ (.slice 3)) (ω (ξ ⟨g,0,ψ⟩) n (cl c)) (.slice B m L)=ξ (ω (ξ ⟨g,0,ψ⟩) (n+m) (cl c),h1)/\cm h1 (ξ ⟨g,0,ψ⟩) (n+m) (cl c) (xs ++ zs)/\h1.next=h.next/\∀b,b≠g->h1.get b=h.get b:=by
 have hzl:=hz.len;have hble:Nat.ble (n+m) (cl c / 2)=true:=Nat.ble_eq_true_of_le (by unfold cl;omega);rcases Nat.eq_zero_or_pos m with h0 | h0
 .subst h0;have hzs:zs = []:=List.eq_nil_of_length_eq_zero hzl;subst hzs;have hap:=kV (P:=Tryz.prog) (h:=h) (e:=3) (size:=1) (bytes:=8) (A:=ξ ⟨g,0,ψ⟩) (K:=cl c) (L:=L) (B:=B) (n:=n) (m:=0) (cells:=[]) dC rfl (by simp) (λh=>absurd h U) U U;rw[hble]at hap;exact⟨h,hap.trans rfl,by rw[List.append_nil];exact o,rfl,λ_ _=>rfl⟩
 .obtain⟨b,ob,cells,rfl,hFb,hblt,hcl,hcc,hcf,hcr⟩:=hz.cells h0;have hce:cells=zs.map (Value.int .i64):=by
   apply List.ext_getElem?;intro i;have hcl':cells.length=m:=by rw[hcl];exact Nat.mul_one m
   by_cases hi:i<m
   .have hx:zs[i]? = ξ (zs[i]' U):=List.getElem?_eq_getElem _;have h8:(cells.drop (i*1)).take 1 = [η ν (zs[i]' U)]:=hcr i _ hx;rw[List.getElem?_map,hx];have h9:=congrArg (λl=>l[0]?) h8;simpa using h9
   .rw[List.getElem?_eq_none U,List.getElem?_eq_none (by simp;omega)]
  have hap:=kV (P:=Tryz.prog) (h:=h) (e:=3) (size:=1) (bytes:=8) (A:=ξ ⟨g,0,ψ⟩) (K:=cl c) (L:=L) (B:=ξ ⟨b,ob,ψ⟩) (n:=n) (m:=m) (cells:=cells) dC hcl hcf (λ_=>⟨b,ob,rfl,hcc⟩) U U;rw[hble]at hap;simp only[cond_true]at hap;obtain⟨hl,o⟩:=o;rcases o with⟨q0,_,_⟩ | ⟨g',c',rest,hA,h1,h2,h3,h4,h5⟩
  .cases q0
  .injection hA with hA;injection hA with hA;subst hA;obtain rfl:c' = c:=by unfold cl at h2;omega
   have hadd:(⟨g,0,ψ⟩:Addr).add (n*1)=⟨g,n,ψ⟩:=by
    rw[Nat.mul_one];unfold Addr.add
    split
    .rename_i h0;subst h0;rfl
    .simp
   have hcl':cells.length=m:=by rw[hcl];exact Nat.mul_one m
   have hst:iE h g n cells=ξ (h.put g (.cells ((xs.map (Value.int .i64) ++ rest).take n ++ cells ++ (xs.map (Value.int .i64) ++ rest).drop (n+cells.length)) 3 false)):=Fc h5 (by rw[List.length_append,List.length_map];omega) hcf;have hst':da h ((⟨g,0,ψ⟩:Addr).add (n*1)) cells=ξ (h.put g (.cells ((xs.map (Value.int .i64) ++ rest).take n ++ cells ++ (xs.map (Value.int .i64) ++ rest).drop (n+cells.length)) 3 false)):=by rw[hadd];exact hst
   have hb0:Nat.beq m 0=false:=by
    cases hb:Nat.beq m 0 with
    | false=>rfl
    | true=>have:=av hb;omega
   obtain⟨hh,hhe⟩:∃hh,h.put g (.cells ((xs.map (Value.int .i64) ++ rest).take n ++ cells ++ (xs.map (Value.int .i64) ++ rest).drop (n+cells.length)) 3 false)=hh:=⟨_,rfl⟩;rw[hhe]at hst';refine⟨hh,?_,⟨by rw[List.length_append,hl,hzl],.inr ⟨g,c',rest.drop m,rfl,by rw[<-hhe];exact h1,rfl,h3,by rw[List.length_drop];omega,?_⟩⟩,by rw[<-hhe];rfl,λb hb=>by rw[<-hhe,get_put,if_neg hb]⟩
   .rw[hap];unfold nR;simp only[hb0,cond_false,hst']
   .have e:(xs.map (Value.int .i64) ++ rest).take n ++ cells ++ (xs.map (Value.int .i64) ++ rest).drop (n+cells.length)=(xs ++ zs).map (Value.int .i64) ++ rest.drop m:=by
     have e1:(xs.map (Value.int .i64)).length=n:=by rw[List.length_map];exact hl
     rw[List.take_append_of_le_length U,List.take_of_length_le U,List.drop_append,List.drop_eq_nil_of_le U,List.nil_append,hcl',e1,Nat.add_sub_cancel_left,hce,List.map_append]
    rw[Bk,<-hhe,get_put,if_pos rfl,e]
set_option maxRecDepth 100000 in
theorem CD (hn:0<n) (hb:n<8000000000000):ai Tryz.prog h (ξ (.slice 3)) (ξ (.int .i64)) (ω ψ 0 0) (η ν (n:Int))=ξ (ω (ξ ⟨h.next,0,ψ⟩) n (cl n),h.new (.cells (List.replicate n (η ν 0)) 3 false)):=by
 obtain⟨i,hi,h1,h2,h3,h4,h6,h7,h8⟩:=bo dC;obtain⟨i',hi',hz⟩:=yd;obtain rfl:i' = i:=Option.some.inj (hi'.symm.trans hi);have hnat:bY (η ν (n:Int))=ξ n:=rfl;have hz1:fF (η ν 0) i'.size=true:=by rw[h1];rfl
 have hb1:Nat.blt n 70000000000000=true:=Nat.ble_eq_true_of_le U;have hsrc:nf i' (bY (η ν (n:Int)))=ξ (n,List.replicate n (η ν 0)):=by
  rw[hnat];unfold nf;rw[hz];simp only[hz1,hb1,Bool.and_self,cond_true];rw[<-a9];rfl
 have hble:Nat.ble (0+n) (0 / 2)=false:=by
  cases hb:Nat.ble (0+n) (0 / 2) with
  | false=>rfl
  | true=>exact absurd (Nat.le_of_ble_eq_true hb) U
 have hk:=xU (h:=h) (e:=3) (A:=ψ) (K:=0) (n:=0) (m:=n) (cells:=List.replicate n (η ν 0)) h1 h2 h6 h7 h8 (by simp) (λu hu=>by rw[List.eq_of_mem_replicate hu];rfl) U U;rw[hble]at hk;unfold ai;simp only[hi,nU,cond_true];unfold nd;rw[hsrc];simp only;rw[hk];simp only[cond_false];unfold fG;rfl
theorem FT (hn:0<n) (hb:n<8000000000000) (hK:∀h',cm h' (ξ ⟨h.next,0,ψ⟩) 0 (cl n) []->Nw h h'->h'.next=h.next+1->Q (ω (ξ ⟨h.next,0,ψ⟩) 0 (cl n)) h'):WC Tryz.prog 91 [ω ψ 0 0,η ν n] h Q:=by
 obtain⟨k1,g1,z1⟩:=aj (h:=h) (ao:=.cells (List.replicate n (η ν 0)) 3 false) rfl;have o:cm (h.new (.cells (List.replicate n (η ν 0)) 3 false)) (ξ ⟨h.next,0,ψ⟩) n (cl n) (List.replicate n 0):=⟨by simp,.inr ⟨h.next,n,[],rfl,U,rfl,hn,by simp,by rw[List.append_nil,List.map_replicate];exact g1⟩⟩;have oc:=o.cut0;refine fm ⟨λh=>absurd h U,λ_=>⟨by rfl,0,rfl,n,by rw[Int.sub_zero];exact af U U,λ_=>⟨by rfl,ψ,0,0,by kernel_rfl,_,_,_,_,CD hn hb,_,_,_,oc.2,hK _ oc.1 k1 z1⟩,λh=>absurd U h⟩⟩
theorem CE {X Y:Option Addr}{K1 K2 b Kb:Nat}{t:TypeId}(hb:Bk h b [.slice X n K1,.slice Y m K2] t) (hlt:b<h.next) (hx:Sa cI F h X n K1 xs) (hy:Sa cI G h Y m K2 zs) (hn:0<n) (hnm:n+m<8000000000000)
  (hK:∀g' h',Sa cI (λz=>h.next<=z) h' (ξ ⟨g',0,ψ⟩) (n+m) (cl (n+m)) (xs ++ zs)->Nw h h'->Q (ω (ξ ⟨g',0,ψ⟩) (n+m) (cl (n+m))) h'):WC Tryz.prog 45 [ω (ξ ⟨b,0,ψ⟩) 2 Kb] h Q:=by
 refine gc ⟨λw x y h1=>h1=h/\∃i:Nat,y=i/\i<=2/\w=2 - i/\x=((if i=0 then 0 else if i=1 then n else n+m:Nat):Int),2,⟨rfl,0,rfl,U,rfl,rfl⟩,?_⟩;rintro w x y h1 ⟨rfl,i,rfl,hi,rfl,rfl⟩;refine⟨λhlt2=>?_,λhge=>?_⟩
 .have hi2:i=0\/i=1:=U;rcases hi2 with rfl | rfl
  .refine⟨0,rfl,b,0,rfl,U,X,n,K1,aa hb rfl,(n:Nat),?_,λh=>absurd h U,λ_=>⟨1,rfl,1,U,rfl,1,rfl,U,rfl,rfl⟩⟩;show IntKind.i64.wrap (((0:Nat):Int)+(n:Int))=_;rw[af U U];omega
  .refine⟨1,rfl,b,0,rfl,U,Y,m,K2,aa hb rfl,((n+m:Nat):Int),?_,λh=>absurd h U,λ_=>⟨2,rfl,0,U,rfl,2,rfl,U,rfl,rfl⟩⟩;show IntKind.i64.wrap (((n:Nat):Int)+(m:Int))=_;rw[af U U];omega
 .obtain rfl:i=2:=U;refine FT (n:=n+m) U hnm λh2 o2 k2 z2=>⟨_,_,_,rfl,?_⟩;have hb2:=k2.bk hlt hb;refine⟨λw A n4 K4 y h3=>A=ξ ⟨h1.next,0,ψ⟩/\K4=cl (n+m)/\∃i:Nat,y=i/\i<=2/\w=2 - i/\n4=(if i=0 then 0 else if i=1 then n else n+m)/\cm h3 (ξ ⟨h1.next,0,ψ⟩) n4 (cl (n+m)) (if i=0 then [] else if i=1 then xs else xs ++ zs)/\Mt (λz=>z=h1.next) h2 h3,2,⟨rfl,rfl,0,rfl,U,rfl,rfl,o2,Mt.refl _ _⟩,?_⟩;rintro w A n4 K4 y h3 ⟨rfl,rfl,i,rfl,hi,rfl,rfl,o3,m3⟩;have hb3:Bk h3 b [.slice X n K1,.slice Y m K2] t:=m3.bk U U hb2;refine⟨λhlt2=>?_,λhge=>?_⟩
  .have hi2:i=0\/i=1:=U;rcases hi2 with rfl | rfl
   .have hx3:Sa cI F h3 X n K1 xs:=by
     have e:Sa cI (λz=>F z/\z<h1.next) h1 X n K1 xs:=hx.mono λz hz hl=>⟨hz,hl⟩;exact((e.nw k2).off m3 λz hz e=>U).mono λz hz _=>hz.1
    obtain⟨h4,y1,y2,y3,y4⟩:=cm.apps o3 hx3.z (by simp) hnm;refine⟨0,rfl,b,0,rfl,U,X,n,K1,aa hb3 rfl,_,_,_,h4,y1,1,rfl,1,U,rfl,rfl,1,rfl,U,rfl,by simp,by simpa using y2,m3.then ⟨U,λz _ hn=>y4 z hn⟩⟩
   .have hy3:Sa cI G h3 Y m K2 zs:=by
     have e:Sa cI (λz=>G z/\z<h1.next) h1 Y m K2 zs:=hy.mono λz hz hl=>⟨hz,hl⟩;exact((e.nw k2).off m3 λz hz e=>U).mono λz hz _=>hz.1
    obtain⟨h4,y1,y2,y3,y4⟩:=cm.apps o3 hy3.z (by simp) hnm;refine⟨1,rfl,b,0,rfl,U,Y,m,K2,aa hb3 rfl,_,_,_,h4,y1,2,rfl,0,U,rfl,rfl,2,rfl,U,rfl,by simp,by simpa using y2,m3.then ⟨U,λz _ hn=>y4 z hn⟩⟩
  .obtain rfl:i=2:=U;exact hK _ h3 ((D7 o3).mono λz hz _=>U) (m3.is_nw k2 λz hz=>U)
end
end Eva
end
section
open Go Go.RowKit
theorem wY:∀{k:Nat},k<=6->ez k<=9000000000000000000:=fun {k} hk=>by
 have:∀k,k<7->ez k<=9000000000000000000:=by decide
 exact this k U
namespace Eva
section
variable {h h':AH}{Q:Value->AH->Prop}{Fa F Fo Fp:Nat->Prop}{N:ab}{p:List (List Int)}{g o C n K a k s t:Nat}{A:Option Addr}{costs:List Int}
theorem CG (G:eA h Fa F g N) (hs:Sa bh Fp h A n K p) (hpo:aB N.nv p) (h1:1<=k) (hkl:k<=p.length) (ha:a<N.na) (hne:ap p k (N.fr a)≠ap p k (N.to a)) (hK:∀h',Nw h h'->Q (.tuple #[η ν (ap p k (N.fr a):Int),η ν (ap p k (N.to a):Int)]) h') :
  WC Tryz.prog 86 [μ (ξ ⟨g,0,ψ⟩),.agg #[ω A n K],η ν k,η ν a] h Q:=by
 have hp6:=hpo.few;have hnv:=hpo.nv_;have ln:=hs.len;refine uv λh1' e1=>?_;obtain⟨k1,g1,z1⟩:=aj e1;have wl:IntKind.i64.wrap ((k:Int) - 1)=((k - 1:Nat):Int):=by rw[Int.natCast_sub h1];exact af U U
 obtain⟨b3,o3,A3,n3,K3,row,hA3,-,-,hrow,r0,srow⟩:=(hs.nw k1).row (k:=k - 1) U;obtain⟨hrl,hrx⟩:=cF hpo hrow;have hn3:n3=N.nv:=by rw[<-srow.len];exact hrl
 subst hn3;have hf:=ab.fr_lt G.ok ha;have ht:=ab.to_lt G.ok ha;obtain⟨b4,o4,x,hA4,-,-,hx,x0⟩:=srow.int (k:=N.fr a) hf.1;obtain⟨b5,o5,y,hA5,-,-,hy,y0⟩:=srow.int (k:=N.to a) ht.1;subst hA4;injection hA5 with hA5;injection hA5 with hA5 hA6;subst hA5 hA6;obtain⟨x',hx',xn,-⟩:=hrx _ hf.1;obtain rfl:=Option.some.inj (hx.symm.trans hx');obtain⟨y',hy',yn,-⟩:=hrx _ ht.1;obtain rfl:=Option.some.inj (hy.symm.trans hy');have ex:=bS hrow hx;have ey:=bS hrow hy;have hx2:x=(ap p k (N.fr a):Int):=U;have hy2:y=(ap p k (N.to a):Int):=U;have ff:=hf.1;have tt:=ht.1;refine⟨λh=>absurd h U,λ_=>⟨_,_,_,aa g1 rfl,λh=>absurd h U,λ_=>⟨_,_,_,aa g1 rfl,_,wl,k - 1,rfl,b3,o3,hA3,U,_,_,_,r0,pp (G.nw k1) ha ⟨_,rfl,zU (G.nw k1) ha ⟨_,rfl,λh=>absurd h U,λ_=>⟨λh=>absurd h U,λ_=>⟨λh=>absurd h U,λ_=>⟨λh=>absurd h U,λ_=>⟨N.fr a,rfl,_,_,rfl,ff,_,x0,N.to a,rfl,tt,_,y0,λhe=>absurd he U,λ_=>⟨ff,_,x0,tt,_,y0,?_⟩⟩⟩⟩⟩⟩⟩⟩⟩⟩;have:=hK h1' k1;rw[<-hx2,<-hy2]at this;exact this
theorem D8 (G:eA h Fa F g N) (hs:Sa bh Fp h A n K p) (hpo:aB N.nv p) (h1:1<=k) (hkl:k<=p.length) (ha:a<N.na) (hne:ap p k (N.fr a)≠ap p k (N.to a)) (hK:∀h',Nw h h'->Q (η ν (ap p k (N.to a):Int)) h') :
  WC Tryz.prog 38 [μ (ξ ⟨g,0,ψ⟩),.agg #[ω A n K],η ν k,η ν a] h Q:=by
 refine qj λh1' e1=>?_;obtain⟨k1,g1,z1⟩:=aj e1;exact⟨_,_,_,eo (aa g1 rfl),CG (G.nw k1) (hs.nw k1) hpo h1 hkl ha hne λh2 k2=>⟨_,_,rfl,hK h2 (k1.trans k2)⟩⟩
theorem D9 (G:eA h Fa F g N) (hs:Sa bh Fp h A n K p) (hpo:aB N.nv p) (h1:1<=k) (hkl:k<=p.length) (ha:a<N.na) (hne:ap p k (N.fr a)≠ap p k (N.to a)) (hK:∀h',Nw h h'->Q (η ν (ap p k (N.fr a):Int)) h') :
  WC Tryz.prog 39 [μ (ξ ⟨g,0,ψ⟩),.agg #[ω A n K],η ν k,η ν a] h Q:=by
 refine qk λh1' e1=>?_;obtain⟨k1,g1,z1⟩:=aj e1;exact⟨_,_,_,eo (aa g1 rfl),CG (G.nw k1) (hs.nw k1) hpo h1 hkl ha hne λh2 k2=>⟨_,_,rfl,hK h2 (k1.trans k2)⟩⟩
theorem FU (hok:N.Ok) (hpo:aB N.nv p) (hco:bG N p costs) (h1:1<=k) (hkl:k<=p.length) (hs:s<N.na) (hin:N.inA p k (ap p k (N.to s)) s) (ht:t∈N.outs p k (ap p k (N.to s))) :
  N.start p k (ap p k (N.to s))+((N.ins p k (ap p k (N.to s))).idxOf s*(N.outs p k (ap p k (N.to s))).length+(N.outs p k (ap p k (N.to s))).idxOf t)<N.size p/\
  (costs.map (Value.int .i64))[N.start p k (ap p k (N.to s))+((N.ins p k (ap p k (N.to s))).idxOf s*(N.outs p k (ap p k (N.to s))).length+(N.outs p k (ap p k (N.to s))).idxOf t)]? = ξ (η ν (N.ent p costs k s t)):=by
 have hcm:=cC hpo h1 hkl (ab.to_lt hok hs).1;have hse:=ab.start_end (N:=N) (p:=p) h1 hkl hcm;have i1:=List.idxOf_lt_length_of_mem (ab.mem_ins.2 ⟨hs,hin⟩);have i2:=List.idxOf_lt_length_of_mem ht;have hpl:=mA i1 i2;unfold ab.sz at hse;have hl:=hco.1;refine⟨U,?_⟩;rw[List.getElem?_map,List.getElem?_eq_getElem U];unfold ab.ent at_;rw[List.getElem?_eq_getElem U];rfl
theorem GY (G:eA h Fa F g N) (O:eL h Fo o N p) (bc:Bk h C (costs.map (Value.int .i64)) 2) (hC:C<h.next) (hco:bG N p costs) (hsz:N.size p<1000000) (hna3:N.na<=300)
  (h1:1<=k) (hkl:k<=p.length) (hs:s<N.na) (hin:N.inA p k (ap p k (N.to s)) s) (ht:t∈N.outs p k (ap p k (N.to s))) (hent:N.ent p costs k s t<an)
  (hK:∀(g':Nat) (l:List Nat) (h':AH),Sa cI (λz=>h.next<=z) h' (ξ ⟨g',0,ψ⟩) (1+l.length) (cl (1+l.length)) (ints (s :: l))->bm N.e N.tr (N.win p k (ap p k (N.to s))) t s (N.ent p costs k s t).toNat l->l.length<=gm (N.xlev p) N.na k->Nw h h'->Q (.tuple #[ω (ξ ⟨g',0,ψ⟩) (1+l.length) (cl (1+l.length)),.nilIface]) h') :
  WC Tryz.prog 10 [μ (ξ ⟨g,0,ψ⟩),μ (ξ ⟨o,0,ψ⟩),ω (ξ ⟨C,0,ψ⟩) (N.size p) (cx (N.size p)),η ν k,η ν s,η ν t] h Q:=by
 have hok:=G.ok;have hpo:=O.hp;have hp6:=hpo.few;have hto:=(ab.to_lt hok hs).1;obtain⟨htn,hta⟩:=ab.mem_outs.1 ht;have hcm:=cC hpo h1 hkl hto;have hsm:=ab.mem_ins.2 ⟨hs,hin⟩;obtain⟨hat,hval⟩:=FU hok hpo hco h1 hkl hs hin ht;obtain⟨c,hc⟩:∃c,ap p k (N.to s)=c:=⟨_,rfl⟩;have hs_ne:ap p k (N.fr s)≠ap p k (N.to s):=λe=>hin.2 (e.trans hc |>.trans hc.symm);have ht_ne:ap p k (N.fr t)≠ap p k (N.to t):=λe=>hta.2 (e ▸ hta.1);refine uu ⟨λh=>absurd h U,λ_=>sU O ⟨_,rfl,λh=>absurd h U,λ_=>xX O ⟨_,rfl,λ_=>yh O λA2 K2 h5 s5 k5=>⟨_,_,_,rfl,λh6 e6=>?_⟩,λh=>absurd rfl h⟩⟩⟩;obtain⟨h7,s7,k7,g7,z7⟩:=aC (vs:=[ω A2 p.length K2]) e6 rfl (by simp[flat]);have k57:=k5.trans k7;refine⟨h7,s7,_,_,_,eo (aa g7 rfl),D8 (G.nw k57) (s5.nw k7) hpo h1 hkl hs hs_ne λh8 k8=>⟨_,rfl,λh=>absurd h U,λ_=>⟨_,_,_,eo (aa (k8.bk U g7) rfl),D9 (G.nw (k57.trans k8)) ((s5.nw k7).nw k8) hpo h1 hkl htn ht_ne λh10 k10=>⟨_,rfl,λ_=>?_,λhn=>absurd (by rw[hta.1]) hn⟩⟩⟩⟩;have k010:=(k57.trans k8).trans k10;refine uI (O.nw k010) h1 hkl hcm λA5 K5 A6 K6 h11 s11 t11 k11=>⟨_,_,_,_,_,_,rfl,λh12 e12=>?_⟩;obtain⟨h13,s13,k13,g13,z13⟩:=aC (vs:=[ω A5 (N.ins p k (ap p k (N.to s))).length K5,ω A6 (N.outs p k (ap p k (N.to s))).length K6]) e12 rfl (dH rfl rfl);have k013:=(k010.trans k11).trans k13;have hna:=G.few.2;have hil:(N.ins p k (ap p k (N.to s))).length<=N.na:=aE _ _;have hol:(N.outs p k (ap p k (N.to s))).length<=N.na:=aE _ _;have pl1:bK (N.ins p k (ap p k (N.to s))) s=(((N.ins p k (ap p k (N.to s))).idxOf s:Nat):Int):=by unfold bK;rw[if_pos hsm]
 have pl2:bK (N.outs p k (ap p k (N.to s))) t=(((N.outs p k (ap p k (N.to s))).idxOf t:Nat):Int):=by unfold bK;rw[if_pos ht]
 refine⟨h13,s13,_,_,_,aa g13 rfl,_,_,_,aa g13 rfl,iM s (s11.nw k13) (aX _ _) U ⟨_,rfl,aa g13 rfl,t11.eqok,iM t (t11.nw k13) (aX _ _) U ⟨_,rfl,?_⟩⟩⟩;rw[pl1,pl2];refine Hf (O.nw k013) h1 hkl hcm (List.idxOf_lt_length_of_mem hsm) (List.idxOf_lt_length_of_mem ht) λh16 k16=>⟨_,rfl,λh=>absurd h U,λ_=>?_⟩;have k016:=k013.trans k16;have bc16:=k016.bk hC bc;have b0:=(wW hok hpo hco h1 hkl hs hin ht).bd;refine⟨_,rfl,C,0,rfl,hat,_,(aT bc16 _).trans (by rw[Nat.zero_add];exact hval),λh=>absurd h (by unfold an at hent;omega),λ_=>?_⟩;refine wX (G.nw k016) (O.nw k016) λq mp bf dn hp cA cK D S h19 B19 R19=>⟨_,rfl,?_⟩;have k19:=B19.nw;have htk:=wY (k:=k) U;refine EB (G.nw k016) (O.nw k016) bc16 (by have:=k016.next;omega) hco hsz hna3 k B19 R19 h1 hkl hs hin ht hent ⟨Int.le_refl _,U⟩ ⟨Int.le_refl _,U⟩ λA9 K9 l D' S' done' w' par' rd' lp' h20 s20 r20 l20 B20 R20 _ _ _ _ _=>⟨_,_,_,true,rfl,λ_=>?_,λh=>Bool.noConfusion h⟩;have k020:=k016.trans B20.nw;refine λh21 e21 h22 e22=>?_;obtain⟨k21,g21,z21⟩:=aj e21;obtain⟨k22,g22,z22⟩:=aj e22;have k2022:=k21.trans k22;have z19:=k19.next;have z016:=k016.next;have z20:=B20.nw.next;have hpk:=pi (x:=N.xlev p) (n:=N.na) (k:=k) hna3 U;have sx:Sa cI (λz=>h.next<=z) h22 (ξ ⟨h20.next,0,ψ⟩) 1 2 (ints [s]):=Sa.of_ints (k:=.i64) (k22.bk U g21) rfl U U;have sy:Sa cI (λz=>h.next<=z) h22 A9 l.length K9 (ints l):=(s20.nw k2022).mono λz hz _=>by have:=hz.1;omega
 refine CE (xs:=ints [s]) (zs:=ints l) (n:=1) (m:=l.length) g22 U sx sy U U λg' h23 s23 k23=>⟨_,_,_,rfl,?_⟩;have e:ints [s] ++ ints l=ints (s :: l):=rfl;rw[e]at s23;exact hK g' l h23 (s23.mono λz hz _=>U) r20 l20 ((k020.trans k2022).trans k23)
end
end Eva
end
section
open Go Go.RowKit
namespace Eva
section
variable {h:AH}{Q:Value->AH->Prop}{Fa F Fo:Nat->Prop}{N:ab}{p:List (List Int)}{g o C s t:Nat}{costs:List Int}
theorem CH (G:eA h Fa F g N) (O:eL h Fo o N p) (bc:Bk h C (costs.map (Value.int .i64)) 2) (hC:C<h.next) (hco:bG N p costs) (hsz:N.size p<1000000) (hs:s<N.na) (ht:t<N.na)
  (hK:∀(d:Nat) (A:Option Addr) (n K:Nat) (hops:List bw) (h':AH),Sa aN (λb=>h.next<=b) h' A n K hops->Nw h h'->(N.w s<an->d<aH->cY (N.le p costs s t) (λa=>N.lev p s t (N.to a)) s t d hops/\hops.length<=N.na+1/\(s=t->hops = []))->(an<=N.w s->d=aH)->(d=aH->hops = [])->d<=aH->Q (.tuple #[.agg #[η ν d,ω A n K],.nilIface]) h') :
  WC Tryz.prog 9 [μ (ξ ⟨g,0,ψ⟩),μ (ξ ⟨o,0,ψ⟩),ω (ξ ⟨C,0,ψ⟩) (N.size p) (cx (N.size p)),η ν s,η ν t] h Q:=by
 refine sD λh1 e1=>?_;obtain⟨k1,g1,z1⟩:=aj e1;have G1:=G.nw k1;have O1:=O.nw k1;refine ui (mB G1 ⟨_,rfl,λh=>U,λ_=>⟨λh=>U,λ_=>⟨λh=>U,λ_=>⟨λh=>U,λ_=>xX O1 ⟨_,rfl,λ_=>⟨ψ,rfl,λ_=>?_,λt u h=>by cases h⟩,λh=>absurd rfl h⟩⟩⟩⟩⟩);refine zI G1 O1 λq mp bf cA cK D h' B hbf=>⟨_,rfl,HT B hbf G1 O1 (k1.bk hC bc) U hco hsz hs ht λd A n K hops h2 s2 k2 q1 q2 q3 q4=>⟨_,_,_,_,rfl,?_⟩⟩;have z2:=k2.next;obtain⟨h5,s5,b5,z5,o5⟩:=bL (vs:=[η ν (d:Int),ω A n K]) (k2.bk U g1) rfl (by simp[flat]);have m5:Mt (λz=>z=h.next) h2 h5:=⟨U,λz _ hn=>o5 z hn⟩;refine⟨h5,s5,_,_,_,_,bX b5 (by simp),hK d A n K hops h5 ((s2.off m5 λz hz e=>?_).mono λz hz _=>?_) (m5.is_nw (k1.trans k2) λz hz=>U) (λhw hd=>(q1 hw).2 hd) q2 q3 q4⟩
 .have:=B.nw.next;omega
 .have:=B.nw.next;omega
end
end Eva
end
section
open Go Go.RowKit
namespace Eva
section
variable {h h':AH}{F G H Fl:Nat->Prop}{Q:Value->AH->Prop}{A Av Aa At Ap Al Ar:Option Addr}{n K nv Kv na Ka nt Kt np Kp nl Kl nr Kr:Nat}{N:ab}{p:List (List Int)}{ls:List (List dV)}{rs:List Int}
theorem GZ (A:Option Addr) (n K:Nat):aS (ω A n K):=by
 cases A with
 | none=>trivial
 | some a=>exact rfl
theorem Ea (hK:Q (.bool true) h):WC Tryz.prog 4 [] h Q:=WC.orc (by rfl) hK
theorem Eb (Z0:cq h F Av nv Kv Aa na Ka At nt Kt N) (hs0:Sz (Rc.sliceZ cI) G h Ap np Kp p) (hmx:np<=9223372036854775807) (hl0:Sz (Rc.sliceZ dQ) Fl h Al nl Kl ls) (hml:nl<=9223372036854775807){a b:Nat}(ha:a<=65535) (hb:b<=65535) :
  WC Tryz.prog 3 [.agg #[ω Av nv Kv,ω Aa na Ka,ω At nt Kt],.agg #[ω Ap np Kp],ω Al nl Kl,.int .u16 a,.int .u16 b] h (λv h'=>v = .bool true/\Nw h h'):=by
 have Z:=Z0.old;have hs:Sz (Rc.sliceZ cI) (λz=>z<h.next) h Ap np Kp p:=hs0.mono λz _ hz=>hz;have hl:Sz (Rc.sliceZ dQ) (λz=>z<h.next) h Al nl Kl ls:=hl0.mono λz _ hz=>hz;have la:N.na=na:=Z.xa.len;have lp:p.length=np:=hs.len;refine qi λh1 e1 h2 e2=>?_;obtain⟨k1,g1,z1⟩:=aj e1;obtain⟨k2,g2,z2⟩:=aj e2;have k12:=k1.trans k2;have g12:=k2.bk U g1;have bN:∀{h'},Nw h2 h'->au h' h.next 0 3=ξ [ω Av nv Kv,ω Aa na Ka,ω At nt Kt]:=λa=>aK (aa (a.bk U g12) rfl) (aa (a.bk U g12) rfl) (aa (a.bk U g12) rfl);have bA:∀{h'},Nw h2 h'->ldC h' h.next 1=ξ (ω Aa na Ka):=λa=>aa (a.bk U g12) rfl;have bQ:∀{h'},Nw h2 h'->ldC h' h1.next 0=ξ (ω Ap np Kp):=λa=>aa (a.bk U g2) rfl;refine Ea ⟨true,rfl,λ_=>⟨_,_,_,_,_,_,_,_,_,bN (Nw.refl _),_,_,_,eo (bQ (Nw.refl _)),HI (Z.nw k12) (hs.nw k12) hmx λb2 h4 k4 hb2=>⟨b2,rfl,λht=>?_,λ_=>⟨rfl,k12.trans k4⟩⟩⟩,λh=>Bool.noConfusion h⟩;obtain⟨hf,ok,hv60,hp10,hp60,hp⟩:=hb2 ht;have k04:=k12.trans k4;refine GV (hl.nw k04) hml λb3 hb3=>⟨b3,rfl,λht3=>⟨_,_,_,bA k4,λ_=>⟨rfl,k04⟩,λhne=>?_⟩,λ_=>⟨rfl,k04⟩⟩;obtain⟨hl6,hl3⟩:=hb3 ht3;have hnpos:0<na:=U;have hnp6:np<=6:=by have:=hp.few;omega
 have hna3:N.na<=300:=hf.2.1;obtain⟨M,hM⟩:∃M,N.behind ls=M:=⟨_,rfl⟩;have S:=ab.behind_shp ls N;have okM:=ab.behind_ok ls ok;refine⟨_,_,_,_,_,_,_,_,_,bN k4,_,_,_,eo (bQ k4),FI (Z.nw k04) hf ok hnpos (hs.nw k04) hp (hl.nw k04) U hl3 λg o C costs h5 R5 k5=>⟨_,_,_,_,_,_,rfl,λ_=>?_,λh=>Bool.noConfusion h⟩⟩;rw[hM]at R5 S okM;have FY:aB M.nv p:=by rw[S.nv];exact hp
 have hnaM:M.na<=300:=by rw[S.na];exact hna3
 have hszE:M.size p=N.size p:=S.size;rw[<-hszE];obtain⟨⟨Fa,Ft,F',X,lo,Fo,O,lo2,nC⟩,cs,cp,co,nn⟩:=R5;have k05:=k04.trans k5;have k25:=k4.trans k5;have hsz:M.size p<1000000:=lg hnaM FY.few;refine⟨_,_,_,_,_,_,_,_,_,bN k25,D0 (Z.nw k05) hf ok (hl.nw k05) U hl3 λA14 n14 K14 A15 n15 K15 A16 n16 K16 h6' Z6' k6'=>⟨_,_,_,_,_,_,_,_,_,rfl,λh6a e6=>?_⟩⟩;rw[hM]at Z6';obtain⟨h6,s6,k6b,g6,z6b⟩:=aC (vs:=[ω A14 n14 K14,ω A15 n15 K15,ω A16 n16 K16]) e6 rfl (by simp[flat]);have Z6:=Z6'.nw k6b;have k6:=k6'.trans k6b;have bM:∀{h'},Nw h6 h'->au h' h6'.next 0 3=ξ [ω A14 n14 K14,ω A15 n15 K15,ω A16 n16 K16]:=λa=>aK (aa (a.bk U g6) rfl) (aa (a.bk U g6) rfl) (aa (a.bk U g6) rfl);have k26:=k25.trans k6;obtain⟨s,hs_⟩:∃s,a % na=s:=⟨_,rfl⟩;obtain⟨t,ht_⟩:∃t,b % na=t:=⟨_,rfl⟩;have hsn:s<na:=by rw[<-hs_];exact Nat.mod_lt _ hnpos
 have htn:t<na:=by rw[<-ht_];exact Nat.mod_lt _ hnpos
 have hsM:s<M.na:=by have:=S.na;omega
 have htM:t<M.na:=by have:=S.na;omega
 have wa:IntKind.i64.wrap (a:Int)=(a:Int):=af U U;have wb:IntKind.i64.wrap (b:Int)=(b:Int):=af U U;refine⟨h6,s6,_,wa,_,_,_,bA k26,(s:Int),U,by rw[<-hs_];rfl,_,wb,_,_,_,bA k26,(t:Int),U,by rw[<-ht_];rfl,GZ _ _ _,?_⟩;have z6:=k6.next;refine CH (X.gr.nw k6) (O.nw k6) (k6.bk cp.2 cs) U co hsz hsM htM λd A20 n20 K20 hops h7 s7 k7 q1 q2 q3 q4=>⟨_,_,_,_,ψ,rfl,λh8 e8=>?_⟩;obtain⟨h9,s9,k9,g9,z9⟩:=aC (vs:=[η ν (d:Int),ω A20 n20 K20]) e8 rfl (by simp[flat]);have k69:=k7.trans k9;have k09:=(k05.trans k6).trans k69;have k29:=k26.trans k69;have z7:=k7.next;have z9':=k9.next;have hn20:hops.length=n20:=s7.len;have s9':=s7.nw k9;have bD:∀{h'},Nw h9 h'->ldC h' h7.next 0=ξ (η ν (d:Int)):=λa=>aa (a.bk U g9) rfl;have bH:∀{h'},Nw h9 h'->ldC h' h7.next 1=ξ (ω A20 n20 K20):=λa=>aa (a.bk U g9) rfl;refine⟨h9,s9,λ_=>⟨_,bD (Nw.refl _),λhI=>⟨_,_,_,bH (Nw.refl _),λ_=>⟨rfl,k09⟩,λhn=>absurd ?_ hn⟩,λhI=>⟨λhst=>⟨_,_,_,bH (Nw.refl _),λ_=>⟨rfl,k09⟩,λhn=>absurd ?_ hn⟩,λhst=>?_⟩⟩,λt u h=>by cases h⟩
 .have:=q3 (by unfold aH;omega);rw[this]at hn20;simp at hn20;omega
 .have hdlt:d<aH:=by unfold aH at *;omega
  have hws:M.w s<an:=Int.not_le.1 λh=>by have:=q2 h;omega
  have:=(q1 hws hdlt).2.2 U;rw[this]at hn20;simp at hn20;omega
 have hdlt:d<aH:=by unfold aH at *;omega
 have hws:M.w s<an:=Int.not_le.1 λh=>by have:=q2 h;omega
 obtain⟨H,hHl,-⟩:=q1 hws hdlt;have hne':s≠t:=λe=>hst (by rw[e]);refine λh12 e12=>?_;obtain⟨k12',g12',z12⟩:=aj e12;have o12:al cI h12 (ah (ξ ⟨h9.next,0,ψ⟩)) 3 (ξ ⟨h9.next,0,ψ⟩) 1 2 (ints [s]):=al.lit (n:=1) g12' (by rfl) U rfl rfl (by simp[flat]) (λk x hx=>by
  have hk:k=0:=by have:=(List.getElem?_eq_some_iff.1 hx).1;simp[ints]at this;exact this
  subst hk;obtain rfl:=Option.some.inj hx;rfl)
 obtain⟨J,hJ⟩:∃J:Nat->Option Addr->Nat->Nat->Int->AH->Prop,∀m A2 n2 K2 x hh,J m A2 n2 K2 x hh↔∃(i cur c:Nat) (l:List Nat),x=i/\i<=n20/\m=n20 - i/\n2=l.length+1/\th M p costs s t hops i cur c l/\al cI hh (ah A2) 3 A2 n2 K2 (ints (s :: l))/\(∀z,ah A2 z->h9.next<=z)/\Nw h9 hh:=⟨_,λ_ _ _ _ _ _=>Iff.rfl⟩;refine⟨J,n20,(hJ _ _ _ _ _ _).2 ⟨0,s,0,[],rfl,Nat.zero_le _,rfl,rfl,th.start,o12,λz hz=>?_,k12'⟩,λm A2 n2 K2 x h13 hj=>?_⟩
 .have:z=h9.next:=hz;omega
 obtain⟨i,cur,c,l,rfl,hi,rfl,rfl,I,o13,lo13,k13⟩:=(hJ _ _ _ _ _ _).1 hj;have z13:=k13.next;have hIlen:=I.len;have hib:i*17596287801<=301*17596287801:=Nat.mul_le_mul_right _ U;have k213:=k29.trans k13;have k013:=k09.trans k13;have s13:=s9'.nw k13;have hWl:=I.walk.last;obtain⟨b14,o14,rfl,-,hb14,rdR⟩:=o13.sa.z.rdn U;have hcur:(s :: l)[l.length]? = ξ cur:=by
  rcases I.walk.end_ with⟨rfl,rfl⟩ | ⟨l',rfl⟩
  .rfl
  .simp
 have wl1:IntKind.i64.wrap (((l.length+1:Nat):Int) - 1)=((l.length:Nat):Int):=by rw[af U U];omega
 refine⟨_,_,_,bH k13,λhlt=>?_,λhge=>?_⟩
 .obtain⟨nb,xc,hhop,hle,next⟩:=I.step H U;have wi1:IntKind.i64.wrap ((i:Int)+1)=((i+1:Nat):Int):=by rw[Int.natCast_succ];exact af U U
  obtain⟨b15,o15,x1,x2,x3,hA15,-,hb15,hx15,f0,f1,f2⟩:=s13.z.tri (k:=i) U;rw[hhop]at hx15;injection hx15 with hx15;injection hx15 with ex1 hx15;injection hx15 with ex2 ex3;subst ex1 ex2 ex3;refine⟨_,_,_,bH k13,i,rfl,b15,o15,hA15,U,_,_,_,aK f0 f1 f2,λh14 e14=>?_⟩;obtain⟨h15,s15,k15,g15,z15⟩:=aC (vs:=[η ν (M.lev p s t (M.to cur):Int),η ν (cur:Int),η ν (nb:Int)]) e14 rfl (by simp[flat]);have t0:∀{h'},Nw h15 h'->ldC h' h13.next 0=ξ (η ν (M.lev p s t (M.to cur):Int)):=λa=>aa (a.bk U g15) rfl;have t1:∀{h'},Nw h15 h'->ldC h' h13.next 1=ξ (η ν (cur:Int)):=λa=>aa (a.bk U g15) rfl;have t2:∀{h'},Nw h15 h'->ldC h' h13.next 2=ξ (η ν (nb:Int)):=λa=>aa (a.bk U g15) rfl;have k215:=k213.trans k15;have k915:=k13.trans k15;have hlev:M.lev p s t (M.to cur)<=p.length:=iJ _ _ _ _ _;refine⟨h15,s15,_,t1 (Nw.refl _),_,wl1,l.length,rfl,b14,o14,rfl,U,_,rdR k15 hcur,λ_=>⟨_,t0 (Nw.refl _),λh=>absurd h U,λ_=>⟨_,t0 (Nw.refl _),_,_,_,bQ k215,λh=>absurd h U,λ_=>⟨_,t0 (Nw.refl _),λh0=>?_,λh0=>?_⟩⟩⟩,λhne=>absurd rfl hne⟩
  .rcases vd hle with⟨-,he⟩ | ⟨k,hk,hk1,-⟩
   .refine⟨_,t2 (Nw.refl _),λh16 e16=>?_⟩;obtain⟨k16,g16,z16⟩:=aj e16;have hz:Sz cI (λz=>z=h15.next) h16 (ξ ⟨h15.next,0,ψ⟩) 1 2 (ints [nb]):=Sz.one g16 rfl U rfl rfl;obtain⟨A6,K6,h17,y1,y2,y3,y4⟩:=aV (r:=cI) (cE _) dC (o13.nw (k15.trans k16)) hz U U;have e12':ints (s :: l) ++ ints [nb]=ints (s :: (l ++ [nb])):=by simp[ints]
    rw[e12']at y2;refine⟨A6,_,K6,h17,y1,_,wi1,n20 - (i+1),U,(hJ _ _ _ _ _ _).2 ⟨i+1,nb,c+xc,l ++ [nb],rfl,U,rfl,by simp,next [nb] (by simp) (by simp) (cZ.snoc I.walk he),y2,λz hz=>(y4 z hz).elim (lo13 z) (λh=>U),y3.is_nw (k915.trans k16) λz hz=>lo13 z hz⟩⟩
   .exact absurd h0 U
  .rcases vd hle with⟨hk0,-⟩ | ⟨k,hk,hk1,hkl,hcn,hnn,hin,hout,hent,hwn,hxc⟩
   .exact absurd U h0
   have k615:=(k69.trans k13).trans k15;have k515:=k6.trans k615;have ht':nb∈M.outs p k (ap p k (M.to cur)):=ab.mem_outs.2 ⟨hnn,hout⟩;have b0:=(wW okM FY co hk1 hkl hcn hin ht').bd;have hpk:=pi (x:=M.xlev p) (n:=M.na) (k:=k) hnaM U;have wk1:IntKind.i64.wrap ((k:Int) - 1)=((k - 1:Nat):Int):=by rw[Int.natCast_sub hk1];exact af U U
   rw[hk]at t0;refine⟨_,t0 (Nw.refl _),_,t1 (Nw.refl _),_,t2 (Nw.refl _),?_⟩;refine GY (X.gr.nw k515) (O.nw k515) (k515.bk cp.2 cs) (by have:=k515.next;omega) co hsz hnaM hk1 hkl hcn hin ht' hent λg33 l2 h17 s17 r17 l17 k17=>⟨_,_,_,ψ,rfl,?_⟩;obtain⟨T2,hg2⟩:=BJ okM hcn hin hout b0.1 hent r17;obtain⟨b3,o3,A19,n19,K19,row,hA3,-,hb3',hrow,r0,srow⟩:=(hs.nw ((k09.trans k915).trans k17)).rowZ (k:=k - 1) U;refine⟨_,_,_,_,_,_,_,_,_,bM (k615.trans k17),_,_,_,bQ (k215.trans k17),_,t0 k17,_,wk1,k - 1,rfl,b3,o3,hA3,U,_,_,_,r0,?_⟩;refine Cw ((Z6.nw k615).nw k17) okM U FY hk1 hkl hrow srow s17.z U (λh18 k18 hno=>absurd (hno _ _ l2 T2) (by rw[hg2];exact λh=>by cases h)) λs' t' l3 x' h18 k18 T3 hg3=>⟨x',true,rfl,λ_=>⟨λ_=>?_,λt u h=>by cases h⟩,λh=>Bool.noConfusion h⟩;have hl2:l2≠[]:=by obtain⟨l5,h5⟩:=r17.end_;rw[h5];simp
   have hl2p:0<l2.length:=List.length_pos_iff.2 hl2;have hsl:=sW (g:=g33) (k:=1) (n:=1+l2.length) (c:=1+l2.length) U (Nat.le_refl _) U;rw[Nat.add_sub_cancel_left]at hsl;have hz:Sz cI (λz=>h15.next<=z) h18 (ξ ⟨g33,1,ψ⟩) l2.length (cl l2.length) (ints l2):=Sz.tail1 (s17.z.nw k18);have kk:=k15.trans (k17.trans k18);obtain⟨A6,K6,h19,y1,y2,y3,y4⟩:=aV (r:=cI) (cE _) dC (o13.nw kk) hz U U;have e12':ints (s :: l) ++ ints l2=ints (s :: (l ++ l2)):=by simp[ints]
   rw[e12']at y2;have z18:=kk.next;refine⟨_,_,_,hsl,A6,_,K6,h19,y1,_,wi1,n20 - (i+1),U,(hJ _ _ _ _ _ _).2 ⟨i+1,nb,c+xc,l ++ l2,rfl,U,rfl,by simp;omega,next l2 hl2 U (by rw[hxc];exact cZ.rows r17 hwn I.walk),y2,λz hz=>(y4 z hz).elim (lo13 z) (λh=>U),y3.is_nw (k13.trans kk) λz hz=>lo13 z hz⟩⟩
 .obtain rfl:i=n20:=U;obtain⟨rfl,rfl⟩:=I.done H U;have hle:=I.le;have hlt':∀b∈s :: l,b<M.na:=λb hb=>by
   rcases List.mem_cons.1 hb with rfl | hb
   .exact hsM
   .exact I.walk.lt b hb
  have hW:=I.walk.ok okM;have hC:=I.walk.cost okM hdlt;have k613:=k69.trans k13;refine⟨_,_,_,bH k13,λ_=>⟨_,wl1,l.length,rfl,b14,o14,rfl,U,_,rdR (Nw.refl _) hcur,λ_=>⟨_,_,_,_,_,_,_,_,_,bM k613,?_⟩,λh=>absurd rfl h⟩,λh=>absurd U h⟩;refine Cz (Z6.nw k613) okM U o13.sa.z U hlt' hws hW λh20 k20=>⟨true,rfl,λ_=>⟨_,_,_,_,_,_,_,_,_,bM (k613.trans k20),_,bD (k13.trans k20),?_⟩,λh=>Bool.noConfusion h⟩;refine FN ((Z6.nw k613).nw k20) okM U (o13.sa.z.nw k20) U hlt' hws hW λh21 k21=>⟨_,rfl,bD (k13.trans (k20.trans k21)),λ_=>⟨rfl,k013.trans (k20.trans k21)⟩,λh=>absurd hC h⟩
end
end Eva
end
end Go.Proofs.YtmbadhdpcdbdbaaGreatDoor
