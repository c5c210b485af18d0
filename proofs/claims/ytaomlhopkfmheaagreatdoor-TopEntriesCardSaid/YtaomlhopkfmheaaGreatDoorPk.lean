/-
Lemmas for TopEntries. No condition.
-/
import Derived.Test.YtaomlhopkfmheaaGreatDoorPj
import Derived.Test.YtaomlhopkfmheaaGreatDoorPe
import Derived.Test.YtaomlhopkfmheaaGreatDoorPh
import Derived.Test.YtaomlhopkfmheaaGreatDoorW7
namespace Go.Proofs.YtaomlhopkfmheaaGreatDoor
set_option linter.unusedVariables false
set_option linter.unusedSimpArgs false
set_option linter.unusedSectionVars false
set_option linter.unnecessarySimpa false
section
open Go Go.RowKit
namespace Eva
def BC:Value:=.slice none 0 0
structure KC (h0:AH) (LB lb n i:Nat) (kl:Nat->List Stp) (h:AH) (vals:List Value) (D:Nat->Prop) (A:Option Addr) (m K:Nat) (cur:List Stp):Prop where
 nw:Nw h0 h
 blk:Bk h LB (vals ++ .slice A m K :: List.replicate (n - (i+1)) BC) 361
 lbx:Bk h lb [.slice (some ⟨LB,0,none⟩) n (cx n)] 360
 vl:vals.length=i/\i<n
 old:∀j v,vals[j]? = some v->∃A n K,v = .slice A n K/\Sa aJ D h A n K (kl j)
 own:al aJ h (af A) 363 A m K cur
 dlo:∀b,D b->h0.next<=b/\b<h.next/\b≠LB/\b≠lb/\¬af A b
 alo:∀b,af A b->h0.next<=b/\b≠LB/\b≠lb
 pos:h0.next<=LB/\h0.next<=lb/\LB≠lb/\LB<h.next/\lb<h.next
section
variable {h h' h0:AH}{LB lb n i m K:Nat}{kl:Nat->List Stp}{vals:List Value}{D:Nat->Prop}{A:Option Addr}{cur:List Stp}
theorem KC.next (C:KC h0 LB lb n i kl h vals D A m K cur) (a:Nw h h'):KC h0 LB lb n i kl h' vals D A m K cur:=by
 obtain⟨p1,p2,p3,p4,p5⟩:=C.pos
 have z:=a.next
 refine⟨C.nw.trans a,a.bk p4 C.blk,a.bk p5 C.lbx,C.vl,λj v hj=>?_,C.own.nw a,λb hb=>by have:=C.dlo b hb;exact⟨this.1,by omega,this.2.2⟩,C.alo,by omega⟩
 obtain⟨A',n',K',h1,h2⟩:=C.old j v hj
 exact⟨A',n',K',h1,h2.nw a⟩
theorem KC.cell (C:KC h0 LB lb n i kl h vals D A m K cur):ldC h LB (0+i)=some (.slice A m K):=by
 rw[aP C.blk,Nat.zero_add,List.getElem?_append_right (by rw[C.vl.1];exact Nat.le_refl _),C.vl.1,Nat.sub_self]
 rfl
theorem KC.push (C:KC h0 LB lb n i kl h vals D A m K cur) (hm:m<=2000) (s:Stp):∀h32,h32=AH.new h (.cells [.int .i64 s.1,.int .i64 s.2.1,.int .i64 s.2.2] 363 false)->
  ∃A' K' h33,ai Tryz.prog h32 (some (.slice 363)) (some (.slice 363)) (.slice A m K) (.slice (some ⟨h.next,0,none⟩) 1 2)=some (.slice A' (m+1) K',h33)/\ldC h33 lb 0=some (.slice (some ⟨LB,0,none⟩) n (cx n))/\
   ∃h34,stC h33 LB (0+i) [.slice A' (m+1) K']=some h34/\KC h0 LB lb n i kl h34 vals D A' (m+1) K' (cur ++ [s]):=by
 intro h32 e32
 obtain⟨p1,p2,p3,p4,p5⟩:=C.pos
 obtain⟨A',K',h33,y1,y2,y3,y4,y5⟩:=me C.own hm s e32
 have nLB:¬af A LB:=λho=>(C.alo _ ho).2.1 rfl
 have nlb:¬af A lb:=λho=>(C.alo _ ho).2.2 rfl
 have b33:=y3.bk p4 nLB C.blk
 have l33:=y3.bk p5 nlb C.lbx
 obtain⟨h34,q1,q2,q3,q4⟩:=aA (v:=.slice A' (m+1) K') b33 (o:=0+i) (by simp;have:=C.vl;omega) rfl
 have lo':∀b,af A' b->h0.next<=b/\b≠LB/\b≠lb:=λb hb=>(y5 b hb).elim (C.alo b) (λh1=>by have:=C.nw.next;omega)
 have same:∀b,b<h.next->¬af A b->b≠LB->h34.get b=h.get b:=λb hb h1 h2=>(q4 b h2).trans (y3.get b hb h1)
 refine⟨A',K',h33,y1,aa l33 rfl,h34,q1,⟨⟨by have:=C.nw.next;omega,λb hb=>(same b (by have:=C.nw.next;omega) (λho=>by have:=(C.alo b ho).1;omega) (by omega)).trans (C.nw.get b hb)⟩,?_,(q4 _ (Ne.symm p3)).trans l33,C.vl,λj v hj=>?_,y2.keep (λb hb _=>q4 b (lo' b hb).2.1) (by omega),λb hb=>?_,lo',by omega⟩⟩
 ·have e:(vals ++ .slice A m K :: List.replicate (n - (i+1)) BC).set (0+i) (.slice A' (m+1) K')=vals ++ .slice A' (m+1) K' :: List.replicate (n - (i+1)) BC:=by
   rw[Nat.zero_add,List.set_append_right _ _ (by rw[C.vl.1];exact Nat.le_refl _),C.vl.1,Nat.sub_self]
   rfl
  rwa [e]at q2
 ·obtain⟨A1,n1,K1,h1,h2⟩:=C.old j v hj
  exact⟨A1,n1,K1,h1,h2.keep (λb hb hlt=>same b hlt (C.dlo b hb).2.2.2.2 (C.dlo b hb).2.2.1) (by omega)⟩
 ·obtain⟨d1,d2,d3,d4,d5⟩:=C.dlo b hb
  exact⟨d1,by omega,d3,d4,λho=>(y5 b ho).elim d5 (λh=>by omega)⟩
end
section
variable {h:AH}{Q:Value->AH->Prop}{Fa F Fo F1 F2 F3:Nat->Prop}{g o:Nat}{N:ab}{p:List (List Int)}{k c:Nat}{A1 A2 A3:Option Addr}{n1 n2 n3 K1 K2 K3:Nat}{costs:List Int}
theorem BD (G:GrA h Fa F g N) (O:OvA h Fo o N p) (hk:2<=k) (hkl:k<=p.length) (hc:c<ap p k) (s1:Sa cI F1 h A1 n1 K1 (ints (N.ins p k c))) (s2:Sa cI F2 h A2 n2 K2 (ints (N.outs p k c))) (s3:Sa cI F3 h A3 n3 K3 costs) (hlen:costs.length=N.size p) (hsz:N.size p<=1000000) (hcb:∀x∈costs,0<=x)
  (hK:∀(ks:List Nat) (A':Option Addr) (K':Nat) (fb:Array Value) (h':AH),fo N p k c ks->jx h' 225 fb (N.LK p k ks ks.length).length (N.kSteps p k c ks costs)->Sa cI (λb=>h.next<=b) h' A' n1 K' (ints ((N.ins p k c).map λa=>(N.LK p k ks ks.length).idxOf a))->Nw h h'->
   Q (.agg #[.int .i64 ((N.LK p k ks ks.length).length:Int),.slice A' n1 K',.func (.func 225) #[] fb]) h') :
  WC Tryz.prog 154 [.pointer (some ⟨g,0,none⟩),.pointer (some ⟨o,0,none⟩),.int .i64 k,.int .i64 c,.agg #[.slice A1 n1 K1,.slice A2 n2 K2],.slice A3 n3 K3] h Q:=by
 have hna:=G.few.2
 have hl1:(N.ins p k c).length=n1:=by simpa[ints]using s1.len
 have hl2:(N.outs p k c).length=n2:=by simpa[ints]using s2.len
 have hn1:n1<=1000:=by rw[<-hl1];exact Nat.le_trans (aC _ _) hna
 have hn2:n2<=1000:=by rw[<-hl2];exact Nat.le_trans (aC _ _) hna
 have hp6:=O.hp.few
 have hnv:=O.hp.nv_
 have wk:IntKind.i64.wrap ((k:Int) - 1)=((k - 1:Nat):Int):=by rw[Int.natCast_sub (by omega)];exact ah (by omega) (by omega)
 refine oP λh1 e1 h2 e2 h3 e3 h4 e4 h5 e5=>?_
 obtain⟨k1,g1,z1⟩:=aj e1
 obtain⟨k2,g2,z2⟩:=aj e2
 obtain⟨k3,g3,z3⟩:=aj e3
 obtain⟨k4,g4,z4⟩:=aj e4
 obtain⟨k5,g5,z5⟩:=aj e5
 have k03:=(k1.trans k2).trans k3
 have k35:=k4.trans k5
 have G3:=G.nw k03
 have O3:=O.nw k03
 have cb3:Bk h3 h.next [.slice A1 n1 K1,.slice A2 n2 K2] 46:=(k2.trans k3).bk (by omega) g1
 have xb3:Bk h3 h1.next [.slice A3 n3 K3] 40:=k3.bk (by omega) g2
 have s13:=s1.nw k03
 have s23:=s2.nw k03
 have s33:=s3.nw k03
 refine DU (O3.nw k35) hk hkl hc λA4 n4 K4 ks h6 s6 hKs k6=>⟨_,_,_,rfl,?_⟩
 have hn4:ks.length=n4:=by simpa[ints]using s6.len
 subst hn4
 have hksn:ks.length<=N.nv:=by
  have h1:=iD (l:=ks) (N:=ap p (k - 1)) (List.Pairwise.imp (λh=>Nat.ne_of_lt h) hKs.asc) (λd hd=>hKs.lt O.hp hk hkl hd)
  refine Nat.le_trans h1 ?_
  obtain⟨row,hr⟩:∃row,p[k - 1 - 1]? = some row:=⟨_,List.getElem?_eq_getElem (by omega)⟩
  have h2:=fM hr
  have h3:=cP (row:=row) (n:=(N.nv:Int)) (by omega) (λx hx=>(O.hp.inr _ (List.mem_of_getElem? hr) x hx).2)
  omega
 have hnv1:=G.few.1
 have z6:=k6.next
 have LKl:∀{i},i<=ks.length->(N.LK p k ks i).length<=1000:=λhi=>Nat.le_trans (zf hKs.asc hi) hna
 refine⟨λm A5 n5 K5 x h7=>∃(i:Nat) (D:Nat->Prop),x=i/\n5=i/\i<=ks.length/\m=ks.length - i/\KB h3 h6.next h3.next h4.next D A5 i K5 (gv N p k ks i) h7 (N.LK p k ks i) (N.spK p k ks i)/\Sa cI (λb=>h5.next<=b/\b<h6.next) h7 A4 ks.length K4 (ints ks),ks.length,⟨0,λ_=>False,rfl,rfl,Nat.zero_le _,rfl,⟨k35.trans k6,al.nil _ _ _ _,?_,⟨none,0,(k6.bk (by omega) g5),al.nil _ _ _ _,λb hb=>hb.elim⟩,λb hb=>hb.elim,by omega,by omega⟩,s6.mono λb hb hlt=>⟨hb,hlt⟩⟩,?_⟩
 ·have e0:pmF (N.LK p k ks 0)=λ_=>none:=by funext x;simp[pmF,ab.LK]
  rw[e0]
  exact(dN.new g4).keep ((k5.trans k6).get _ (by omega))
 rintro m A5 n5 K5 x h7 ⟨i,D,rfl,rfl,hi,rfl,B7,sK⟩
 refine⟨λhlt=>?_,λhge=>?_⟩
 ·have hik:n5<ks.length:=by omega
  obtain⟨d,hd⟩:∃d,ks[n5]? = some d:=⟨_,List.getElem?_eq_getElem hik⟩
  have hdD:(ks[n5]?).getD 0=d:=by rw[hd];rfl
  have hdm:=List.mem_of_getElem? hd
  have hdl:=hKs.lt O.hp hk hkl hdm
  obtain⟨b1,o1,x4,hA4,-,-,hx4,q4⟩:=sK.int (k:=n5) hik
  have hxd:x4=(d:Int):=by simp[ints,hd]at hx4;exact hx4.symm
  subst hxd
  refine⟨n5,rfl,b1,o1,hA4,hik,_,q4,_,wk,tj (O3.nw B7.nw) (by omega) (by omega) hdl λA6 K6 A7 K7 h8 sA sB k8=>⟨_,_,_,_,_,_,rfl,λh9 e9=>?_⟩⟩
  obtain⟨ni,hni⟩:∃ni,(N.ins p (k - 1) d).length=ni:=⟨_,rfl⟩
  obtain⟨no,hno⟩:∃no,(N.outs p (k - 1) d).length=no:=⟨_,rfl⟩
  rw[hni]at sA⊢
  rw[hno]at sB⊢
  have hni2:ni<=1000:=by rw[<-hni];exact Nat.le_trans (aC _ _) hna
  obtain⟨h10,s10,k10,g10,z10⟩:=ay (vs:=[.slice A6 ni K6,.slice A7 no K7]) e9 rfl (dR rfl rfl)
  refine⟨h10,s10,_,_,_,_,_,_,bY g10 (by simp),λh11 e11=>?_⟩
  obtain⟨k11,g11,z11⟩:=aj e11
  have z8:=k8.next
  have B11:=B7.next ((k8.trans k10).trans k11)
  have hownD:∀b,af A5 b->D b:=λb hb=>(B7.gates.lt hb).1
  have sA11:=((sA.nw k10).nw k11)
  have sB11:=((sB.nw k10).nw k11)
  have sAF:Sa cI (λb=>h7.next<=b/\b<h11.next) h11 A6 ni K6 (ints (N.ins p (k - 1) d)):=sA11.mono λb hb hlt=>⟨hb,hlt⟩
  have sBF:Sa cI (λb=>h7.next<=b/\b<h11.next) h11 A7 no K7 (ints (N.outs p (k - 1) d)):=sB11.mono λb hb hlt=>⟨hb,hlt⟩
  have hz:Sz Rc.gate (λb=>h7.next<=b/\b<h11.next) h11 (some ⟨h10.next,0,none⟩) 1 2 [(ints (N.ins p (k - 1) d),ints (N.outs p (k - 1) d))]:=
   Sz.one g11 ⟨by omega,by omega⟩ (by omega) rfl ⟨A6,ni,K6,A7,no,K7,rfl,sAF,sBF⟩
  obtain⟨A10,K10,h12,y1,y2,y3,y4⟩:=fL (r:=Rc.gate) (bytes:=48) tyG B11.gates hz (λb hb ho=>by have:=(B7.dlo b (hownD b ho)).2.1;omega) (by omega) (by omega)
  have z12:=y3.next
  have nO:∀{b},h7.next<=b->¬af A5 b:=λhb ho=>by have:=(B7.dlo _ (hownD _ ho)).2.1;omega
  refine⟨A10,n5+1,K10,h12,y1,_,_,_,aa (y3.bk (by omega) (nO (by omega)) (k11.bk (by omega) g10)) rfl,?_⟩
  obtain⟨A12,K12,t1,t2,t3⟩:=B11.spt
  obtain⟨p1,p2,p3,p4,p5⟩:=B11.pos
  have B12:KB h3 h6.next h3.next h4.next (λb=>(D b\/(h7.next<=b/\b<h11.next)\/b=h11.next)/\b<h12.next) A10 (n5+1) K10 (gv N p k ks (n5+1)) h12 (N.LK p k ks n5) (N.spK p k ks n5):=by
   have lo7:=B7.hlo
   refine⟨⟨by have:=B11.nw.next;omega,λb hb=>(y3.get b (by have:=B11.nw.next;omega) (λho=>by have:=(B7.dlo b (hownD b ho)).1;omega)).trans (B11.nw.get b hb)⟩,?_,B11.map_.keep (y3.get _ p4 (λho=>(B7.dlo _ (hownD _ ho)).2.2.1 rfl)),⟨A12,K12,y3.bk p5 (λho=>(B7.dlo _ (hownD _ ho)).2.2.2 rfl) t1,t2.keep (λb hb hlt=>y3.get b hlt (λho=>(t3 b hb).2.2.2 (hownD b ho))) (by omega),λb hb=>?_⟩,λb hb=>?_,by omega,by omega⟩
   ·rw[tz,hdD]
    exact y2.mono λb hb hlt=>⟨hb,hlt⟩
   ·have hb7:b<h7.next:=by
     obtain⟨A12',K12',t1',t2',t3'⟩:=B7.spt
     have:ldC h11 h4.next 0=some (.slice A12' (N.LK p k ks n5).length K12'):=aa (((k8.trans k10).trans k11).bk (by have:=B7.pos;omega) t1') rfl
     rw[aa t1 rfl]at this
     injection this with this
     injection this with e1 e2 e3
     subst e1
     exact t2'.own hb
    refine⟨(t3 b hb).1,(t3 b hb).2.1,(t3 b hb).2.2.1,λhd=>?_⟩
    rcases hd.1 with h9 | h9 | h9
    ·exact(t3 b hb).2.2.2 h9
    ·omega
    ·omega
   ·have hpos:=B7.pos
    rcases hb.1 with h9 | h9 | h9
    ·have:=B7.dlo b h9;omega
    ·omega
    ·omega
  have sA12:Sa cI (λb=>h7.next<=b/\b<h11.next) h12 A6 ni K6 (ints (N.ins p (k - 1) d)):=sAF.off y3 λb hb=>nO hb.1
  have sK12:Sa cI (λb=>h5.next<=b/\b<h6.next) h12 A4 ks.length K4 (ints ks):=((sK.nw (k8.trans k10)).nw k11).off y3 λb hb ho=>by have:=(B7.dlo b (hownD b ho)).1;omega
  have hLn5:=LKl hi
  refine⟨λm x h13=>∃j:Nat,x=j/\j<=ni/\m=ni - j/\KB h3 h6.next h3.next h4.next (λb=>(D b\/(h7.next<=b/\b<h11.next)\/b=h11.next)/\b<h12.next) A10 (n5+1) K10 (gv N p k ks (n5+1)) h13 (N.LK p k ks n5 ++ (N.ins p (k - 1) d).take j) (N.spK p k ks n5 ++ (List.range j).map λj=>(N.firstK p k d j,(n5:Int)))/\Sa cI (λb=>h7.next<=b/\b<h11.next) h13 A6 ni K6 (ints (N.ins p (k - 1) d))/\Sa cI (λb=>h5.next<=b/\b<h6.next) h13 A4 ks.length K4 (ints ks),ni,⟨0,rfl,Nat.zero_le _,rfl,by simpa using B12,sA12,sK12⟩,?_⟩
  rintro m x h13 ⟨j,rfl,hj,rfl,B13,sA13,sK13⟩
  refine⟨λhlt=>?_,λhge=>?_⟩
  ·have hjn:j<ni:=by omega
   obtain⟨b2,o2,x7,hA6,-,-,hx7,r0⟩:=sA13.int (k:=j) hjn
   obtain⟨a,ha⟩:∃a,(N.ins p (k - 1) d)[j]? = some a:=⟨_,List.getElem?_eq_getElem (by omega)⟩
   have hxa:x7=(a:Int):=by simp[ints,ha]at hx7;exact hx7.symm
   subst hxa
   have hfr:a ∉ N.LK p k ks n5 ++ (N.ins p (k - 1) d).take j:=by
    have:=ze (N:=N) (p:=p) (k:=k) (ks:=ks) hKs.asc (n:=n5) (j:=j) (a:=a) hik (by rw[hdD];exact ha)
    rwa [hdD]at this
   have hLl:(N.LK p k ks n5 ++ (N.ins p (k - 1) d).take j).length<=2000:=by rw[List.length_append,List.length_take];omega
   obtain⟨A12',K12',u1,u2,h14,u3,u4,u5,u6,u7⟩:=B13.push hfr hLl
   obtain⟨P1,P2,P3,P4,P5⟩:=B13.pos
   have nw14:Nw h3 h14:=⟨by have:=B13.nw.next;omega,λb hb=>(u6 b (by omega)).trans (B13.nw.get b hb)⟩
   have w1:IntKind.i64.wrap ((j:Int)+1)=((j+1:Nat):Int):=by rw[Int.natCast_succ];exact ah (by omega) (by omega)
   refine⟨j,rfl,b2,o2,hA6,hjn,_,r0,_,_,_,u1,h14,u3,_,_,_,u4,_,wk,EF (O3.nw nw14) hk hkl hdl (by omega) λh15 k15=>⟨_,rfl,?_⟩⟩
   obtain⟨v1,v2⟩:=u7 h15 (N.firstK p k d j) (n5:Int) k15
   refine⟨v1,u2,λh16 e16=>?_⟩
   obtain⟨A14,K14,h17,w2,h18,w3,B18,w4,w5⟩:=v2 h16 e16
   refine⟨A14,_,K14,h17,w2,h18,w3,_,w1,ni - (j+1),by omega,j+1,by omega,by omega,rfl,?_,sA13.keep (λb hb hlt=>w5 b hlt (by have:=B7.pos;omega) (by have:=B7.pos;omega) (.inr ⟨.inr (.inl hb),by omega⟩)) w4,sK13.keep (λb hb hlt=>w5 b hlt (by omega) (by omega) (.inl (by omega))) w4⟩
   have e1:N.LK p k ks n5 ++ (N.ins p (k - 1) d).take (j+1)=N.LK p k ks n5 ++ (N.ins p (k - 1) d).take j ++ [a]:=by rw[List.take_add_one,ha,List.append_assoc];rfl
   have e2:(N.spK p k ks n5 ++ (List.range (j+1)).map λj=>(N.firstK p k d j,(n5:Int)))=(N.spK p k ks n5 ++ (List.range j).map λj=>(N.firstK p k d j,(n5:Int))) ++ [(N.firstK p k d j,(n5:Int))]:=by rw[List.range_succ,List.map_append,List.append_assoc];rfl
   rw[e1,e2]
   exact B18
  ·obtain rfl:j=ni:=by omega
   have w1:IntKind.i64.wrap ((n5:Int)+1)=((n5+1:Nat):Int):=by rw[Int.natCast_succ];exact ah (by omega) (by omega)
   refine⟨_,w1,ks.length - (n5+1),by omega,n5+1,λb=>(D b\/(h7.next<=b/\b<h11.next)\/b=h11.next)/\b<h12.next,rfl,rfl,by omega,rfl,?_,sK13⟩
   rw[List.take_of_length_le (by omega)]at B13
   have e1:N.LK p k ks (n5+1)=N.LK p k ks n5 ++ N.ins p (k - 1) d:=by rw[ab.LK,hdD]
   have e2:N.spK p k ks (n5+1)=N.spK p k ks n5 ++ (List.range j).map λj=>(N.firstK p k d j,(n5:Int)):=by rw[ab.spK,hdD,hni]
   rw[e1,e2]
   exact B13
 ·obtain rfl:n5=ks.length:=by omega
  obtain⟨L,hL⟩:∃L,N.LK p k ks ks.length=L:=⟨_,rfl⟩
  have hLl:L.length<=1000:=by rw[<-hL];exact LKl (Nat.le_refl _)
  obtain⟨P1,P2,P3,P4,P5⟩:=B7.pos
  have cb7:=B7.nw.bk (by omega) cb3
  have G7:=G3.nw B7.nw
  have s27:=s23.nw B7.nw
  have m7:=B7.map_
  rw[hL]at m7
  have sG7:Sa Rc.gate D h7 A5 ks.length K5 (gv N p k ks ks.length):=B7.gates.sa
  refine⟨by omega,λh19 e19 h20 e20=>?_⟩
  obtain⟨k19,g19,z19⟩:=aj e19
  rw[a9]at g19
  obtain⟨h21,s21,k21,g21,z21⟩:=ay (vs:=[.slice (some ⟨h7.next,0,none⟩) ks.length (cx ks.length)]) e20 rfl (by simp[flat])
  refine⟨h21,s21,λm x h22=>∃(i:Nat) (vals:List Value) (D2:Nat->Prop),x=i/\i<=ks.length/\m=ks.length - i/\Nw h7 h22/\Bk h22 h7.next (vals ++ List.replicate (ks.length - i) BC) 361/\Bk h22 h19.next [.slice (some ⟨h7.next,0,none⟩) ks.length (cx ks.length)] 360/\vals.length=i/\(∀j v,vals[j]? = some v->∃A n K,v = .slice A n K/\Sa aJ D2 h22 A n K (N.kList p k c ks j))/\(∀b,D2 b->h7.next<=b/\b<h22.next/\b≠h7.next/\b≠h19.next)/\h19.next<h22.next,ks.length,⟨0,[],λ_=>False,rfl,Nat.zero_le _,rfl,k19.trans k21,k21.bk (by omega) g19,g21,rfl,by simp,λb hb=>hb.elim,by omega⟩,?_⟩
  rintro m x h22 ⟨i,vals,D2,rfl,hi,rfl,k22,b22,l22,hvl,hold,hD2,hl22⟩
  refine⟨λhlt=>?_,λhge=>?_⟩
  ·have hik:i<ks.length:=by omega
   obtain⟨d,hd⟩:∃d,ks[i]? = some d:=⟨_,List.getElem?_eq_getElem hik⟩
   have hdD:(ks[i]?).getD 0=d:=by rw[hd];rfl
   have hdm:=List.mem_of_getElem? hd
   have hkl1:N.kList p k c ks i=(N.outs p (k - 1) d).map (N.kStep p k c L):=by unfold ab.kList;rw[hdD,hL]
   obtain⟨b3,o3,A15,n15,K15,A16,n16,K16,gx,gy,hA5,-,-,hgx,q1,q2,s15,s16⟩:=(sG7.nw k22).gate (k:=i) hik
   have hgy:gx=ints (N.ins p (k - 1) d)/\gy=ints (N.outs p (k - 1) d):=by
    unfold gv at hgx
    rw[List.getElem?_map,List.getElem?_range hik]at hgx
    simp only[Option.map_some,hdD]at hgx
    injection hgx with hgx
    injection hgx with h1 h2
    exact⟨h1.symm,h2.symm⟩
   obtain⟨rfl,rfl⟩:=hgy
   have hn16:(N.outs p (k - 1) d).length=n16:=by simpa[ints]using s16.len
   have hn16b:n16<=1000:=by rw[<-hn16];exact Nat.le_trans (aC _ _) hna
   refine⟨i,rfl,b3,o3,hA5,hik,_,_,_,_,_,_,pc q1 q2,λh23 e23=>?_⟩
   obtain⟨h24,s24,k24,g24,z24⟩:=ay (vs:=[.slice A15 n15 K15,.slice A16 n16 K16]) e23 rfl (dR rfl rfl)
   have hz22:=k22.next
   have C24:KC h7 h7.next h19.next ks.length i (N.kList p k c ks) h24 vals D2 none 0 0 []:=by
    refine⟨k22.trans k24,?_,k24.bk hl22 l22,⟨hvl,hik⟩,λj v hj=>?_,al.nil _ _ _ _,λb hb=>?_,λb hb=>hb.elim,by omega⟩
    ·have:=k24.bk (by omega) b22
     rw[show ks.length - i=(ks.length - (i+1))+1 by omega,List.replicate_succ]at this
     exact this
    ·obtain⟨A',n',K',h1,h2⟩:=hold j v hj
     exact⟨A',n',K',h1,h2.nw k24⟩
    ·have:=hD2 b hb
     exact⟨this.1,by omega,this.2.2.1,this.2.2.2,id⟩
   refine⟨h24,s24,_,_,_,aa g24 rfl,λm x h25=>∃(j:Nat) (A:Option Addr) (mm K:Nat),x=j/\j<=n16/\m=n16 - j/\KC h7 h7.next h19.next ks.length i (N.kList p k c ks) h25 vals D2 A mm K (((N.outs p (k - 1) d).take j).map (N.kStep p k c L))/\mm=j/\Nw h7 h25,n16,⟨0,none,0,0,rfl,Nat.zero_le _,rfl,by simpa using C24,rfl,C24.nw⟩,?_⟩
   rintro m x h25 ⟨j,A,mm,K,rfl,hj,rfl,C25,rfl,k25⟩
   have w1:IntKind.i64.wrap ((mm:Int)+1)=((mm+1:Nat):Int):=by rw[Int.natCast_succ];exact ah (by omega) (by omega)
   refine⟨λhlt=>?_,λhge=>?_⟩
   ·have hjn:mm<n16:=by omega
    have s16':Sa cI D h25 A16 n16 K16 (ints (N.outs p (k - 1) d)):=by
     obtain⟨b3',o3',A15',n15',K15',A16',n16',K16',gx',gy',hA5',-,-,hgx',q1',q2',s15',s16'⟩:=(sG7.nw k25).gate (k:=i) hik
     obtain⟨b7,o7,A157,n157,K157,A167,n167,K167,gx7,gy7,hA57,-,hb7,hgx7,q17,q27,s157,s167⟩:=sG7.gate (k:=i) hik
     have e1:gy7=ints (N.outs p (k - 1) d):=by
      unfold gv at hgx7
      rw[List.getElem?_map,List.getElem?_range hik]at hgx7
      simp only[Option.map_some,hdD]at hgx7
      injection hgx7 with hgx7
      injection hgx7 with h1 h2
      exact h2.symm
     subst e1
     rw[hA5]at hA57
     injection hA57 with hA57
     injection hA57 with e2 e3
     subst e2 e3
     have e4:=(k22.ldC hb7 _).trans q27
     rw[q2]at e4
     injection e4 with e4
     injection e4 with e5 e6 e7
     subst e5 e6 e7
     exact s167.nw k25
    obtain⟨b4,o4,x14,hA16,-,-,hx14,r0⟩:=s16'.int (k:=mm) hjn
    obtain⟨mv,hmv⟩:∃mv,(N.outs p (k - 1) d)[mm]? = some mv:=⟨_,List.getElem?_eq_getElem (by omega)⟩
    have hxm:x14=(mv:Int):=by simp[ints,hmv]at hx14;exact hx14.symm
    subst hxm
    have hmvm:=List.mem_of_getElem? hmv
    have hmvn:=(ab.mem_outs.1 hmvm).1
    have htake:((N.outs p (k - 1) d).take (mm+1)).map (N.kStep p k c L)=((N.outs p (k - 1) d).take mm).map (N.kStep p k c L) ++ [N.kStep p k c L mv]:=by
     rw[List.take_add_one,hmv,List.map_append];rfl
    refine⟨mm,rfl,b4,o4,hA16,hjn,_,r0,_,_,_,aa (k25.bk (by omega) cb7) rfl,ie mv (s27.nw k25) (aV _ _) (by omega) ⟨_,rfl,λh27 e27=>?_⟩⟩
    obtain⟨h28,s28,k28,g28,z28⟩:=ay (vs:=[.int .i64 0,.int .i64 (bg (N.outs p k c) mv),.int .i64 0]) e27 rfl (ez rfl rfl rfl)
    have fin:∀(h31:AH) (s:Stp),Nw h25 h31->s=N.kStep p k c L mv->Bk h31 h25.next [.int .i64 s.1,.int .i64 s.2.1,.int .i64 s.2.2] 363->
      ∃(A19:Option Addr) (n19:Nat) (K19:Nat),ldC h31 h19.next 0=some (.slice A19 n19 K19)/\∃(A20:Option Addr) (n20:Nat) (K20:Nat),ldC h31 h19.next 0=some (.slice A20 n20 K20)/\∃(b_5 o_5:Nat),A20=some ⟨b_5,o_5,none⟩/\i<n20/\∃(A21:Option Addr) (n21:Nat) (K21:Nat),ldC h31 b_5 (o_5+i)=some (.slice A21 n21 K21)/\∃(x19:Int) (x20:Int) (x21:Int),ldN h31 h25.next 0 3=some [.int .i64 x19,.int .i64 x20,.int .i64 x21]/\
      ∀h32:AH,h32=AH.new h31 (.cells [.int .i64 x19,.int .i64 x20,.int .i64 x21] 363 false)->∃(A22:Option Addr) (n22:Nat) (K22:Nat) (h33:AH),ai Tryz.prog h32 (some (.slice 363)) (some (.slice 363)) (.slice A21 n21 K21) (.slice (some ⟨h31.next,0,none⟩) 1 2)=some (.slice A22 n22 K22,h33)/\ldC h33 h19.next 0=some (.slice A19 n19 K19)/\aZ (.slice A19 n19 K19)/\∃(b_6 o_6:Nat),A19=some ⟨b_6,o_6,none⟩/\i<n19/\∃h34:AH,stC h33 b_6 (o_6+i) [.slice A22 n22 K22]=some h34/\
      ∃x22:Int,IntKind.i64.wrap ((mm:Int)+1)=x22/\∃m':Nat,m' < n16 - mm/\∃(j:Nat) (A:Option Addr) (mm K:Nat),x22=j/\j<=n16/\m' = n16 - j/\KC h7 h7.next h19.next ks.length i (N.kList p k c ks) h34 vals D2 A mm K (((N.outs p (k - 1) d).take j).map (N.kStep p k c L))/\mm=j/\Nw h7 h34:=by
     intro h31 s k31 hs gs
     have C31:=C25.next k31
     obtain⟨Q1,Q2,Q3,Q4,Q5⟩:=C31.pos
     refine⟨_,_,_,aa C31.lbx rfl,_,_,_,aa C31.lbx rfl,_,_,rfl,hik,_,_,_,C31.cell,_,_,_,bY gs (by simp),λh32 e32=>?_⟩
     obtain⟨A',K',h33,y1,y2,h34,y3,C34⟩:=C31.push (by omega) s h32 e32
     refine⟨A',mm+1,K',h33,y1,y2,rfl,_,_,rfl,hik,h34,y3,_,w1,n16 - (mm+1),by omega,mm+1,A',mm+1,K',rfl,by omega,rfl,?_,rfl,C34.nw⟩
     rw[htake,<-hs]
     exact C34
    refine⟨h28,s28,_,aa g28 rfl,λhneg=>?_,λhpos=>?_⟩
    ·have hout:mv ∉ N.outs p k c:=λhm=>by have:=dZ.2 hm;omega
     have hpl:bg (N.outs p k c) mv = -1:=by unfold bg;rw[if_neg hout]
     have hmL:mv∈L:=by rw[<-hL];exact zL hKs O.ok O.hp hk hkl hdm hmvm hout
     have hst:N.kStep p k c L mv=(((L.idxOf mv:Nat):Int),-1,N.w mv):=by unfold ab.kStep;rw[if_neg hout,if_pos hmL]
     have wb:=ab.w_bd G.ok mv
     rw[hpl]at g28
     refine⟨_,_,wo (m7.keep ((k25.trans k28).get _ (by omega))) mv,λ_=>?_,λhf=>absurd hmL (of_decide_eq_false hf)⟩
     rw[if_pos hmL]
     refine md ((G7.nw k25).nw k28) hmvn ⟨_,rfl,?_⟩
     obtain⟨h30,s30,b30,z30,q30⟩:=aA (v:=.int .i64 ((L.idxOf mv:Nat):Int)) g28 (o:=0) (by simp) rfl
     obtain⟨h31,s31,b31,z31,q31⟩:=aA (v:=.int .i64 (N.w mv)) b30 (o:=2) (by simp) rfl
     have k31:Nw h25 h31:=⟨by omega,λb hb=>(q31 b (by omega)).trans ((q30 b (by omega)).trans (k28.get b hb))⟩
     exact⟨h30,s30,h31,s31,fin h31 (((L.idxOf mv:Nat):Int),-1,N.w mv) k31 hst.symm b31⟩
    ·have hout:mv∈N.outs p k c:=dZ.1 (by omega)
     have hpl:bg (N.outs p k c) mv=(((N.outs p k c).idxOf mv:Nat):Int):=by unfold bg;rw[if_pos hout]
     have hst:N.kStep p k c L mv=(0,(((N.outs p k c).idxOf mv:Nat):Int),0):=by unfold ab.kStep;rw[if_pos hout]
     rw[hpl]at g28
     exact fin h28 (0,(((N.outs p k c).idxOf mv:Nat):Int),0) k28 hst.symm g28
   ·obtain rfl:mm=n16:=by omega
    have hC:=C25.own
    rw[List.take_of_length_le (by omega)]at hC
    obtain⟨Q1,Q2,Q3,Q4,Q5⟩:=C25.pos
    have wi:IntKind.i64.wrap ((i:Int)+1)=((i+1:Nat):Int):=by rw[Int.natCast_succ];exact ah (by omega) (by omega)
    refine⟨_,wi,ks.length - (i+1),by omega,i+1,vals ++ [.slice A mm K],λb=>D2 b\/af A b,rfl,by omega,rfl,k25,?_,C25.lbx,by simp[hvl],λq v hq=>?_,λb hb=>?_,Q5⟩
    ·have:=C25.blk
     rwa [List.append_cons]at this
    ·rw[List.getElem?_append]at hq
     split at hq
     ·obtain⟨A',n',K',h1,h2⟩:=C25.old q v hq
      exact⟨A',n',K',h1,h2.mono λb hb _=>.inl hb⟩
     ·rename_i hge2
      have hq0:q=vals.length:=by
       have:=(List.getElem?_eq_some_iff.1 hq).1
       simp at this
       omega
      subst hq0
      simp at hq
      subst hq
      refine⟨A,mm,K,rfl,?_⟩
      rw[hvl,hkl1]
      exact hC.sa.mono λb hb _=>.inr hb
    ·rcases hb with hb | hb
     ·have:=C25.dlo b hb;exact⟨this.1,this.2.1,this.2.2.1,this.2.2.2.1⟩
     ·have:=C25.alo b hb;exact⟨this.1,hC.own hb,this.2.1,this.2.2⟩
  ·obtain rfl:i=ks.length:=by omega
   rw[Nat.sub_self,List.replicate_zero,List.append_nil]at b22
   obtain⟨A12,K12,t1,t2,t3⟩:=B7.spt
   rw[hL]at t1 t2
   have z22:=k22.next
   refine⟨_,_,_,aa (k22.bk P5 t1) rfl,λh45 e45=>?_⟩
   obtain⟨h46,s46,k46,g46,z46⟩:=ay (vs:=[.int .i64 L.length,.slice none 0 0,.nilFunc]) e45 rfl (ez rfl rfl rfl)
   have k746:=k22.trans k46
   have m46:=m7.keep (k746.get _ P4)
   refine⟨h46,s46,_,_,_,aa (k746.bk (by omega) cb7) rfl,λm x h47=>∃(q:Nat) (A17:Option Addr) (K17:Nat),x=q/\q<=n1/\m=n1 - q/\Bk h47 h22.next [.int .i64 L.length,.slice A17 q K17,.nilFunc] 277/\al cI h47 (af A17) 3 A17 q K17 (ints (((N.ins p k c).take q).map λa=>L.idxOf a))/\(∀b,af A17 b->h46.next<=b)/\h46.next<=h47.next/\(∀b,b<h46.next->b≠h22.next->h47.get b=h46.get b),n1,⟨0,none,0,rfl,Nat.zero_le _,rfl,g46,al.nil _ _ _ _,λb hb=>hb.elim,Nat.le_refl _,λ_ _ _=>rfl⟩,?_⟩
   rintro m x h47 ⟨q,A17,K17,rfl,hq,rfl,b47,o47,lo47,hz47,q47⟩
   refine⟨λhlt=>?_,λhge=>?_⟩
   ·have hqn:q<n1:=by omega
    have s1':Sa cI F1 h3 A1 n1 K1 (ints (N.ins p k c)):=s13
    obtain⟨b5,o5,x34,hA1,-,hb5,hx34,r5⟩:=s13.int (k:=q) hqn
    obtain⟨e,he⟩:∃e,(N.ins p k c)[q]? = some e:=⟨_,List.getElem?_eq_getElem (by omega)⟩
    have hxe:x34=(e:Int):=by simp[ints,he]at hx34;exact hx34.symm
    subst hxe
    have heL:e∈L:=by rw[<-hL];exact(hKs.in_kid O.ok O.hp hk hkl).2 (j7 O.ok O.hp hk hkl (List.mem_of_getElem? he))
    have same3:∀b,b<h3.next->h47.get b=h3.get b:=λb hb=>(q47 b (by omega) (by omega)).trans ((k746.get b (by omega)).trans (B7.nw.get b hb))
    have m47:=m46.keep (q47 _ (by omega) (by omega))
    have hlk:=zJ m47 e
    rw[if_pos heL]at hlk
    refine⟨q,rfl,b5,o5,hA1,hqn,_,(aW (same3 b5 hb5) _).trans r5,_,_,_,aa b47 rfl,_,hlk,λh48 e48=>?_⟩
    obtain⟨k48,g48,z48⟩:=aj e48
    have hz:Sz cI (λz=>z=h47.next) h48 (some ⟨h47.next,0,none⟩) 1 2 [((L.idxOf e:Nat):Int)]:=Sz.one g48 rfl (by omega) rfl rfl
    obtain⟨A18,K18,h49,y1,y2,y3,y4⟩:=aX (c9 _) (r:=cI) dK (o47.nw k48) hz (by omega) (by omega)
    have z49:=y3.next
    have b49:=y3.bk (b:=h22.next) (by omega) (λho=>by have:=lo47 _ ho;omega) (k48.bk (by omega) b47)
    obtain⟨h50,s50,b50,z50,o50⟩:=aA (v:=.slice A18 (q+1) K18) b49 (o:=1) (by simp) rfl
    have lo18:∀z,af A18 z->h46.next<=z:=λz hz=>(y4 z hz).elim (lo47 z) (λh=>by omega)
    refine⟨A18,q+1,K18,h49,y1,h50,s50,_,ah (by omega) (by omega),n1 - (q+1),by omega,q+1,A18,K18,by omega,by omega,rfl,b50,?_,lo18,by omega,λz hz hne=>(o50 z hne).trans ((y3.get z (by omega) (λho=>by have:=lo47 _ ho;omega)).trans ((k48.get z (by omega)).trans (q47 z hz hne)))⟩
    have:ints (((N.ins p k c).take (q+1)).map λa=>L.idxOf a)=ints (((N.ins p k c).take q).map λa=>L.idxOf a) ++ [((L.idxOf e:Nat):Int)]:=by
     rw[List.take_add_one,he];simp[ints]
    rw[this]
    exact y2.keep (λz hz _=>o50 z (by have:=lo18 z hz;omega)) (by omega)
   ·obtain rfl:q=n1:=by omega
    rw[List.take_of_length_le (by omega)]at o47
    obtain⟨h51,s51,b51,z51,o51⟩:=aA (v:=.func (.func 225) #[] #[.pointer (some ⟨h4.next,0,none⟩),.pointer (some ⟨h19.next,0,none⟩),.pointer (some ⟨h1.next,0,none⟩)]) b47 (o:=2) (by simp) rfl
    have f51:Bk h51 h2.next [.int .i64 0,.slice none 0 0,.nilFunc] 277:=(o51 _ (by omega)).trans ((q47 _ (by omega) (by omega)).trans (k746.bk (by omega) (B7.nw.bk (by omega) g3)))
    obtain⟨h52,s52,b52,z52,o52⟩:=bI (vs:=[.int .i64 L.length,.slice A17 q K17,.func (.func 225) #[] #[.pointer (some ⟨h4.next,0,none⟩),.pointer (some ⟨h19.next,0,none⟩),.pointer (some ⟨h1.next,0,none⟩)]]) f51 rfl (ez rfl rfl rfl)
    have same:∀z,z<h46.next->z≠h22.next->z≠h2.next->h52.get z=h46.get z:=λz hz h1 h2=>(o52 z h2).trans ((o51 z h1).trans (q47 z hz h1))
    have same7:∀z,z<h7.next->z≠h2.next->h52.get z=h7.get z:=λz hz h2=>(same z (by omega) (by omega) h2).trans (k746.get z hz)
    have same22:∀z,z<h22.next->z≠h2.next->h52.get z=h22.get z:=λz hz h2=>(same z (by omega) (by omega) h2).trans (k46.get z hz)
    have same3:∀z,z<h3.next->z≠h2.next->h52.get z=h3.get z:=λz hz h2=>(same7 z (by omega) h2).trans (B7.nw.get z hz)
    refine⟨h51,s51,_,_,_,_,_,_,bY b51 (by simp),h52,s52,_,_,_,_,_,_,bY b52 (by simp),?_⟩
    have hnw:Nw h h52:=⟨by omega,λz hz=>(same3 z (by omega) (by omega)).trans (k03.get z hz)⟩
    have hA17:Sa cI (λb=>h.next<=b) h52 A17 q K17 (ints ((N.ins p k c).map λa=>L.idxOf a)):=((o47.keep (λz hz _=>(o52 z (by have:=lo47 z hz;omega)).trans (o51 z (by have:=lo47 z hz;omega))) (by omega)).sa).mono λz hz _=>by have:=lo47 z hz;omega
    have lohi:=B7.hlo
    have hspb:ldC h52 h4.next 0=some (.slice A12 L.length K12):=aa ((same7 _ P5 (by omega)).trans t1) rfl
    have hsps:Sa cPr (af A12) h52 A12 L.length K12 (N.spK p k ks ks.length):=t2.sa.keep (λz hz hlt=>same7 z hlt (by have:=(t3 z hz).1;omega)) (by omega)
    have hlb:ldC h52 h19.next 0=some (.slice (some ⟨h7.next,0,none⟩) ks.length (cx ks.length)):=aa ((same22 _ hl22 (by omega)).trans l22) rfl
    have hvb:Bk h52 h7.next vals 361:=(same22 _ (by omega) (by omega)).trans b22
    have hls:Sa (Rc.slice aJ) (λb=>D2 b\/b=h7.next) h52 (some ⟨h7.next,0,none⟩) ks.length (cx ks.length) ((List.range ks.length).map (N.kList p k c ks)):=
     Sa.of_bk hvb (by simp) (.inr rfl) (by omega) λj r hj=>by
      rw[List.getElem?_map]at hj
      by_cases hjl:j<ks.length
      ·rw[List.getElem?_range hjl]at hj
       simp only[Option.map_some,Option.some.injEq]at hj
       subst hj
       obtain⟨v,hv⟩:∃v,vals[j]? = some v:=⟨_,List.getElem?_eq_getElem (by omega)⟩
       obtain⟨A',n',K',rfl,h2⟩:=hold j v hv
       refine⟨A',n',K',?_,(h2.keep (λz hz hlt=>same22 z hlt (by have:=(hD2 z hz).1;omega)) (by omega)).mono λb hb _=>.inl hb⟩
       show(vals.drop (j*1)).take 1=_
       rw[Nat.mul_one]
       exact cR hv
      ·rw[List.getElem?_eq_none (by simpa using hjl)]at hj
       cases hj
    have hcb':ldC h52 h1.next 0=some (.slice A3 n3 K3):=aa ((same3 _ (by omega) (by omega)).trans xb3) rfl
    have hcs:Sa cI (λb=>F3 b/\b<h.next) h52 A3 n3 K3 costs:=((s3.mono (G:=λb=>F3 b/\b<h.next) λb hb hlt=>⟨hb,hlt⟩).nw hnw)
    have hn3:=s3.len
    have hx:=zM (h0:=h52) ⟨by omega,by omega,by omega⟩ hspb hsps hlb hls hcb' hcs (by omega) (λx hx=>?_) hcb (λr hr s hs=>?_)
    ·have hfun:(λq=>match (N.spK p k ks ks.length)[q]? with | some x=>nH costs x.1.toNat ((((List.range ks.length).map (N.kList p k c ks))[x.2.toNat]?).getD []) | none=>[])=N.kSteps p k c ks costs:=by
      funext q'
      unfold ab.kSteps
      cases hq':(N.spK p k ks ks.length)[q']? with
      | none=>rfl
      | some x=>
       obtain⟨a,ha⟩:∃a,(N.LK p k ks ks.length)[q']? = some a:=⟨_,List.getElem?_eq_getElem (by rw[<-iF];exact(List.getElem?_eq_some_iff.1 hq').1)⟩
       obtain⟨i',j',d',h1',h2',h3',h4'⟩:=vS ks.length (Nat.le_refl _) ha
       rw[hq']at h4'
       injection h4' with h4'
       subst h4'
       simp[h1']
     have hx2:=(congrArg (λf=>jx h52 225 #[.pointer (some ⟨h4.next,0,none⟩),.pointer (some ⟨h19.next,0,none⟩),.pointer (some ⟨h1.next,0,none⟩)] L.length f) hfun).mp hx
     have hKK:=hK ks A17 K17 _ h52 hKs (by rw[hL];exact hx2) (by rw[hL];exact hA17) hnw
     rw[hL]at hKK
     exact hKK
    ·obtain⟨q',hq'⟩:=List.getElem?_of_mem hx
     obtain⟨a,ha⟩:∃a,(N.LK p k ks ks.length)[q']? = some a:=⟨_,List.getElem?_eq_getElem (by rw[<-iF];exact(List.getElem?_eq_some_iff.1 hq').1)⟩
     obtain⟨i',j',d',h1',h2',h3',h4'⟩:=vS ks.length (Nat.le_refl _) ha
     rw[hq']at h4'
     injection h4' with h4'
     subst h4'
     have hd'm:=List.mem_of_getElem? h2'
     have hd'l:=hKs.lt O.hp hk hkl hd'm
     have hse:=ab.start_end (N:=N) (p:=p) (k:=k - 1) (by omega) (by omega) hd'l
     have hj':=(List.getElem?_eq_some_iff.1 h3').1
     have hkl':(N.kList p k c ks i').length=(N.outs p (k - 1) d').length:=by unfold ab.kList;rw[h2'];simp
     refine⟨i',N.kList p k c ks i',rfl,by simp[h1'],by rw[hkl'];exact Nat.le_trans (aC _ _) (by omega),?_⟩
     by_cases he:N.outs p (k - 1) d' = []
     ·left
      unfold ab.kList
      rw[h2']
      simp[he]
     ·right
      unfold ab.firstK
      rw[if_neg he]
      simp only[Int.toNat_natCast]
      refine⟨Int.natCast_nonneg _,?_⟩
      rw[hkl']
      unfold ab.sz at hse
      have h5:(j' + 1)*(N.outs p (k - 1) d').length<=(N.ins p (k - 1) d').length*(N.outs p (k - 1) d').length:=Nat.mul_le_mul_right _ hj'
      rw[Nat.succ_mul]at h5
      omega
    ·obtain⟨i',hi',rfl⟩:=List.mem_map.1 hr
     obtain⟨mv,hmv,rfl⟩:=List.mem_map.1 hs
     have wb:=ab.w_bd G.ok mv
     unfold ab.kStep
     split
     ·exact Int.le_refl _
     ·split
      ·exact wb.1
      ·show(0:Int)<=1152921504606846976
       omega
end
end Eva
end
section
open Go Go.RowKit
theorem oe {l:List Int}{i outs j:Nat}(hj:j<outs):at_ ((l.drop (i*outs)).take outs) j=at_ l (i*outs+j):=by
 unfold at_
 rw[List.getElem?_take,if_pos hj,List.getElem?_drop]
theorem D9 {m outs q:Nat}(h:q<m*outs):q / outs<m/\q % outs<outs/\q / outs*outs+q % outs=q:=by
 have h0:0<outs:=by
  rcases Nat.eq_zero_or_pos outs with h1 | h1
  ·rw[h1,Nat.mul_zero]at h;omega
  ·exact h1
 exact⟨(Nat.div_lt_iff_lt_mul h0).2 h,Nat.mod_lt _ h0,by rw[Nat.mul_comm];exact Nat.div_add_mod q outs⟩
theorem wq {m outs:Nat}{steps:Nat->List Stp}{starts:List Nat}{l:List Int}(hl:l.length=m*outs) (hs:starts.length=m) (hr:∀i st,starts[i]? = some st->pO outs steps st ((l.drop (i*outs)).take outs)):∀x∈l,0<=x:=λx hx=>by
 obtain⟨q,hq⟩:=List.getElem?_of_mem hx
 have hql:=(List.getElem?_eq_some_iff.1 hq).1
 obtain⟨h1,h2,h3⟩:=D9 (hl ▸ hql)
 have h4:=(hr (q / outs) (starts[q / outs]'(by omega)) (List.getElem?_eq_getElem (by omega))).2 (q % outs) h2
 rw[oe h2,h3]at h4
 have:at_ l q=x:=by unfold at_;rw[hq];rfl
 rw[this]at h4
 exact h4.1.1
namespace Eva
section
variable {h:AH}{Q:Value->AH->Prop}{Fa F Fo F3:Nat->Prop}{g o:Nat}{N:ab}{p:List (List Int)}{k c:Nat}{A3:Option Addr}{n3 K3:Nat}{costs:List Int}
theorem Ea (G:GrA h Fa F g N) (hna3:N.na<=300) (O:OvA h Fo o N p) (hk:1<=k) (hkl:k<=p.length) (hc:c<ap p k) (s3:Sa cI F3 h A3 n3 K3 costs) (hlen:costs.length=N.size p) (hsz:N.size p<=1000000) (hcb:∀x∈costs,0<=x)
  (hbel:2<=k->∀d,d<ap p (k - 1)->bo N p costs (k - 1) d)
  (hK:∀(A:Option Addr) (n K:Nat) (l:List Int) (h':AH),Sa cI (λb=>h.next<=b) h' A n K l->Ce N p k c l->(∀x∈l,0<=x)->Nw h h'->Q (.slice A n K) h') :
  WC Tryz.prog 82 [.pointer (some ⟨g,0,none⟩),.pointer (some ⟨o,0,none⟩),.int .i64 k,.int .i64 c,.slice A3 n3 K3] h Q:=by
 have hna:=G.few.2
 have hok:=G.ok
 obtain⟨ni,hni⟩:∃ni,(N.ins p k c).length=ni:=⟨_,rfl⟩
 obtain⟨no,hno⟩:∃no,(N.outs p k c).length=no:=⟨_,rfl⟩
 have hni2:ni<=300:=by rw[<-hni];exact Nat.le_trans (aC _ _) hna3
 have hno2:no<=300:=by rw[<-hno];exact Nat.le_trans (aC _ _) hna3
 have hnn:ni*no<=300*300:=Nat.mul_le_mul hni2 hno2
 have nil:∀h',Nw h h'->N.sz p k c=0->Q (.slice none 0 0) h':=λh' a h0=>hK none 0 0 [] h' ⟨rfl,.inl ⟨rfl,rfl,rfl⟩,λh=>absurd h (Nat.lt_irrefl _)⟩ ⟨h0.symm,λi j a b hi hj=>by
  have:=lB (List.getElem?_eq_some_iff.1 hi).1 (List.getElem?_eq_some_iff.1 hj).1
  unfold ab.sz at h0
  omega⟩ (by simp) a
 refine uB ⟨λh=>absurd h (by omega),λ_=>rq O hk hkl ⟨_,rfl,λh=>absurd h (by omega),λ_=>tj O hk hkl hc λA2 K2 A3' K3' h2 sA sB k2=>⟨_,_,_,_,_,_,rfl,λh3 e3=>?_⟩⟩⟩
 rw[hni]at sA⊢
 rw[hno]at sB⊢
 obtain⟨h4,s4,k4,g4,z4⟩:=ay (vs:=[.slice A2 ni K2,.slice A3' no K3']) e3 rfl (dR rfl rfl)
 have k04:=k2.trans k4
 refine⟨h4,s4,_,_,_,aa g4 rfl,λh0=>nil h4 k04 (by unfold ab.sz;rw[hni,hno,show ni=0 by omega,Nat.zero_mul]),λhn0=>⟨_,_,_,aa g4 rfl,λh0=>nil h4 k04 (by unfold ab.sz;rw[hni,hno,show no=0 by omega,Nat.mul_zero]),λho0=>⟨λhk1=>?_,λhk1=>?_⟩⟩⟩
 ·obtain rfl:k=1:=by omega
  refine⟨_,_,_,_,_,_,bY g4 (by simp),_,_,_,aa g4 rfl,?_⟩
  have z2:=k2.next
  refine BB (G.nw k04) (sA.nw k4) (sB.nw k4) λL S sb A' K' h5 hL hN s5 k5=>⟨_,_,_,_,_,_,rfl,aa (k5.bk (by omega) g4) rfl,(sB.eqok),?_⟩
  obtain⟨hA,hF⟩:=hL.fld hok
  have hLl:=hL.len
  rw[hno]at hF
  refine zH s5 hF (by have:4294967296*(L.length+1)<=4294967296*1001:=Nat.mul_le_mul_left _ (by omega);omega) (by omega) (by omega) (by omega) (λs hs=>?_) hN λC l h6 b6 hC hC2 hl hr k6=>⟨_,_,_,rfl,?_⟩
  ·have:s<ni:=by simpa using hs
   obtain⟨M,hM⟩:=hL.pre
   rw[hM,List.length_append]
   omega
  ·have k5':=k5.next
   refine hK _ _ _ l h6 ((Sa.of_ints b6 hl (F:=λb=>h.next<=b) (by have:=k04.next;omega) hC2)) ⟨by unfold ab.sz;rw[hni,hno];exact hl,λi j a b hi hj=>?_⟩ (wq hl (by simp) hr) (((k04.trans k5).trans k6))
   have hil:i<ni:=by rw[<-hni];exact(List.getElem?_eq_some_iff.1 hi).1
   have hjl:j<no:=by rw[<-hno];exact(List.getElem?_eq_some_iff.1 hj).1
   have:=hA.row hF hi hno (hr i i (by rw[List.getElem?_range hil])) hj
   rw[oe hjl]at this
   rw[hno]
   exact this
 ·have hk2:2<=k:=by omega
  refine⟨_,_,_,_,_,_,bY g4 (by simp),_,_,_,aa g4 rfl,?_⟩
  have z2:=k2.next
  refine BD (G.nw k04) (O.nw k04) hk2 hkl hc (sA.nw k4) (sB.nw k4) (s3.nw k04) hlen hsz hcb λks A' K' fb h5 hKs hN s5 k5=>⟨_,_,_,_,_,_,rfl,aa (k5.bk (by omega) g4) rfl,(sB.eqok),?_⟩
  obtain⟨hA,hF,hB⟩:=hKs.fld hok O.hp hk2 hkl (costs:=costs) λd hd=>hbel hk2 d (hKs.lt O.hp hk2 hkl hd)
  have hLl:=zf (N:=N) (p:=p) (k:=k) hKs.asc (Nat.le_refl ks.length)
  rw[hno]at hF
  refine zH s5 hF (by
   have h1:4294967296*(N.na+2)<=4294967296*302:=Nat.mul_le_mul_left _ (by omega)
   have h2:4294967296*(N.na+2)*((N.LK p k ks ks.length).length+1)<=(4294967296*302)*301:=Nat.mul_le_mul h1 (by omega)
   omega) (by omega) (by omega) (by omega) (λs hs=>?_) hN λC l h6 b6 hC hC2 hl hr k6=>⟨_,_,_,rfl,?_⟩
  ·obtain⟨a,ha,rfl⟩:=List.mem_map.1 hs
   exact List.idxOf_lt_length_of_mem ((hKs.in_kid hok O.hp hk2 hkl).2 (j7 hok O.hp hk2 hkl ha))
  ·have k5':=k5.next
   refine hK _ _ _ l h6 ((Sa.of_ints b6 hl (F:=λb=>h.next<=b) (by have:=k04.next;omega) hC2)) ⟨by unfold ab.sz;rw[hni,hno];exact hl,λi j a b hi hj=>?_⟩ (wq hl (by simp[hni]) hr) (((k04.trans k5).trans k6))
   have hjl:j<no:=by rw[<-hno];exact(List.getElem?_eq_some_iff.1 hj).1
   have hst:((N.ins p k c).map λa=>(N.LK p k ks ks.length).idxOf a)[i]? = some ((N.LK p k ks ks.length).idxOf a):=by rw[List.getElem?_map,hi];rfl
   have:=hA.row hok O.hp hk2 hkl hB hF hi hst hno (hr i _ hst) hj
   rw[oe hjl]at this
   rw[hno]
   exact this
end
end Eva
end
section
open Go Go.RowKit
namespace Eva
theorem zN:∃i,Tryz.prog.info? 2=some i/\i.size=1:=by
 obtain⟨q,q1,q2,-⟩:=bi D7
 exact⟨q,q1,q2⟩
theorem wu {P:Program}{e C n lo:Nat}(hT:∃i,P.info? e=some i/\i.size=1) (h1:lo<=n):∃x K,(lo<n->x=lo)/\aE P e (some ⟨C,0,none⟩) n (cx n) (some lo) none none=some (.slice (some ⟨C,x,none⟩) (n - lo) K):=by
 obtain⟨i,hi',hsz⟩:=hT
 unfold aE
 rw[hi']
 have hc2:(cx n) / 2=n:=by unfold cx;omega
 have hp:Nat.beq ((cx n) % 2) 0=true:=by
  have:(cx n) % 2=0:=by unfold cx;omega
  rw[this];rfl
 have hb1:Nat.ble n ((cx n) / 2)=true:=Nat.ble_eq_true_of_le (by omega)
 have hb0:Nat.ble lo n=true:=Nat.ble_eq_true_of_le h1
 show ∃x K,(lo<n->x=lo)/\cond (Option.isNone (none:Option Nat) || Option.isSome (none:Option Nat)) (cw i.size (some ⟨C,0,none⟩) n (cx n) ((some lo).getD 0) none none) none=_
 simp only[Option.isNone_none,Bool.true_or,cond_true,Option.getD_some]
 unfold cw
 simp only[Option.getD_none,hb1,hb0,Bool.and_self,cond_true,hp]
 unfold mi mh
 rw[hc2,hsz,Nat.mul_one]
 cases hb:Nat.beq n lo with
 | true=>
  have:=aq hb
  exact⟨0,_,λh=>by omega,rfl⟩
 | false=>
  refine⟨lo,cx (n - lo),λ_=>rfl,?_⟩
  simp only[cond_false,Option.map_some]
  rw[bj,Nat.zero_add]
section
variable {h:AH}{F:Nat->Prop}
theorem zO {C n lo x K n2 K2:Nat}{costs l:List Int}{A2:Option Addr}(hb:Bk h C (costs.map (Value.int .i64)) 2) (hn:costs.length=n) (hl:Sa cI F h A2 n2 K2 l) (hlo:lo+n2<=n) (hx:lo<n->x=lo) :
  ∃h',iN Tryz.prog h (some (.slice 2)) (.slice (some ⟨C,x,none⟩) (n - lo) K) (.slice A2 n2 K2)=some (.int .i64 n2,h')/\Bk h' C ((dF costs l lo).map (Value.int .i64)) 2/\h'.next=h.next/\∀b,b≠C->h'.get b=h.get b:=by
 obtain⟨i,hi,hsz⟩:=zN
 unfold iN
 simp only[yd,hi,hsz]
 have hble:Nat.ble n2 (n - lo)=true:=Nat.ble_eq_true_of_le (by omega)
 rw[hble]
 simp only[cond_true]
 have hl2:=hl.len
 have hf:eL h 1 n2 (.slice A2 n2 K2)=some (l.map (Value.int .i64)):=iW (by simp[hl2]) λh0=>by
  obtain⟨b,o,hA,-,-,hx⟩:=hl.at_ h0
  refine⟨b,o,hA,λj u hu=>?_⟩
  rw[List.getElem?_map]at hu
  cases hj:l[j]? with
  | none=>rw[hj]at hu;cases hu
  | some y=>
   rw[hj]at hu
   obtain rfl:=Option.some.inj hu
   obtain⟨cs,hc,hr⟩:=hx j y hj
   have hr':cs = [.int .i64 y]:=hr
   have:=hc 0 (.int .i64 y) (by rw[hr'];rfl)
   simpa[Rc.int]using this
 rw[hf]
 simp only
 unfold tY
 rcases Nat.eq_zero_or_pos n2 with h0 | h0
 ·subst h0
  have:l = []:=List.eq_nil_of_length_eq_zero hl2
  subst this
  refine⟨h,rfl,?_,rfl,λ_ _=>rfl⟩
  unfold dF
  simpa using hb
 ·have hb0:Nat.beq (l.map (Value.int .i64)).length 0=false:=by
   cases hb0:Nat.beq (l.map (Value.int .i64)).length 0 with
   | false=>rfl
   | true=>have:=aq hb0;simp at this;rw[this]at hl2;simp at hl2;omega
  simp only[hb0,cond_false]
  obtain rfl:=hx (by omega)
  have:=stN (h:=h) (b:=C) (o:=x) (vs:=l.map (Value.int .i64)) hb (by simp;omega) (λv hv=>by obtain⟨y,-,rfl⟩:=List.mem_map.1 hv;rfl)
  unfold stC at this
  rw[this]
  refine⟨_,rfl,?_,rfl,λb hb=>by rw[get_put,if_neg hb]⟩
  show(h.put C _).get C=_
  rw[get_put,if_pos rfl]
  unfold dF
  simp[List.map_take,List.map_drop]
end
section
variable {h:AH}{Q:Value->AH->Prop}{Fa F Fo:Nat->Prop}{g o:Nat}{N:ab}{p:List (List Int)}
theorem tA {costs l:List Int}{i:Nat}(h1:∀x∈costs,0<=x) (h2:∀x∈l,0<=x):∀x∈dF costs l i,0<=x:=λx hx=>by
 unfold dF at hx
 rcases List.mem_append.1 hx with hx | hx
 ·rcases List.mem_append.1 hx with hx | hx
  ·exact h1 x (List.mem_of_mem_take hx)
  ·exact h2 x hx
 ·exact h1 x (List.mem_of_mem_drop hx)
theorem EI (G:GrA h Fa F g N) (hna3:N.na<=300) (O:OvA h Fo o N p) (hsz:N.size p<1000000)
  (hK:∀(C:Nat) (costs:List Int) (h':AH),Bk h' C (costs.map (Value.int .i64)) 2->h.next<=C->C<h'.next->ch N p costs->(∀x∈costs,0<=x)->Nw h h'->Q (.slice (some ⟨C,0,none⟩) (N.size p) (cx (N.size p))) h') :
  WC Tryz.prog 79 [.pointer (some ⟨g,0,none⟩),.pointer (some ⟨o,0,none⟩)] h Q:=by
 have hp6:=O.hp.few
 have hp1:=O.hp.some_
 obtain⟨T,hT⟩:∃T,N.size p=T:=⟨_,rfl⟩
 refine uA (zx O ⟨_,rfl,T,by rw[hT],by omega,λh2 e2=>?_⟩)
 obtain⟨k2,g2,z2⟩:=aj e2
 rw[a9]at g2
 refine⟨λm x y h3=>∃(k:Nat) (costs:List Int),x=((N.start p k 0:Nat):Int)/\y=k/\1<=k/\k<=p.length+1/\m=p.length+1 - k/\costs.length=T/\Bk h3 h.next (costs.map (Value.int .i64)) 2/\(∀k' c',1<=k'->k' < k->c' < ap p k'->bo N p costs k' c')/\(∀x∈costs,0<=x)/\Nw h h3/\h.next<h3.next,p.length,⟨1,List.replicate T 0,by rw[ab.start_one];rfl,rfl,Nat.le_refl _,by omega,by omega,by simp,by simpa using g2,λk' c' h1 h2=>by omega,λx hx=>by rw[List.eq_of_mem_replicate hx];exact Int.le_refl _,k2,by omega⟩,?_⟩
 rintro m x y h3 ⟨k,costs,rfl,rfl,hk1,hk2,rfl,hl,b3,hc,hnn,k3,hlt3⟩
 refine rp (O.nw k3) ⟨_,rfl,λhle=>?_,λhgt=>?_⟩
 ·have hkl:k<=p.length:=by omega
  have wk:IntKind.i64.wrap ((k:Int)+1)=((k+1:Nat):Int):=by rw[Int.natCast_succ];exact ah (by omega) (by omega)
  refine rq (O.nw k3) hk1 hkl ⟨_,rfl,λm x y h6=>∃(c:Nat) (costs:List Int),x=((N.start p k c:Nat):Int)/\y=c/\c<=ap p k/\m=ap p k - c/\costs.length=T/\Bk h6 h.next (costs.map (Value.int .i64)) 2/\(∀k' c',1<=k'->k'<=p.length->c' < ap p k'->(k' < k\/(k' = k/\c' < c))->bo N p costs k' c')/\(∀x∈costs,0<=x)/\Nw h h6/\h.next<h6.next,ap p k,⟨0,costs,rfl,rfl,Nat.zero_le _,rfl,hl,b3,λk' c' h1 h2 h3 h4=>h4.elim (λh=>hc k' c' h1 h h3) (λh=>by omega),hnn,k3,hlt3⟩,?_⟩
  rintro m x y h6 ⟨c,costs',rfl,rfl,hcm,rfl,hl',b6,hc',hnn',k6,hlt6⟩
  refine⟨λhlt=>?_,λhge=>?_⟩
  ·have hcl:c<ap p k:=by omega
   have hse:=ab.start_end (N:=N) hk1 hkl hcl
   obtain⟨st,hst⟩:∃st,N.start p k c=st:=⟨_,rfl⟩
   rw[hst]at hse
   have hmost:ap p k<=N.nv:=by
    obtain⟨row,hr⟩:∃row,p[k - 1]? = some row:=⟨_,List.getElem?_eq_getElem (by omega)⟩
    have h2:=fM hr
    have h3:=cP (row:=row) (n:=(N.nv:Int)) (by omega) (λx hx=>(O.hp.inr _ (List.mem_of_getElem? hr) x hx).2)
    omega
   have hnv:=O.nfew.1
   have wc:IntKind.i64.wrap ((c:Int)+1)=((c+1:Nat):Int):=by rw[Int.natCast_succ];exact ah (by omega) (by omega)
   obtain⟨x1,K1,hx1,hsl⟩:=wu (P:=Tryz.prog) (C:=h.next) (n:=T) (lo:=st) zN (by omega)
   have s6:Sa cI (λb=>b=h.next) h6 (some ⟨h.next,0,none⟩) T (cx T) costs':=Sa.of_ints b6 hl' rfl hlt6
   refine⟨st,by rw[hst],_,_,_,hsl,Ea (G.nw k6) hna3 (O.nw k6) hk1 hkl hcl s6 (by omega) (by omega) hnn' (λh2 d hd=>hc' (k - 1) d (by omega) (by omega) hd (.inl (by omega))) λA2 n2 K2 l h7 s7 hone hlnn k7=>⟨_,_,_,rfl,?_⟩⟩
   have b7:=k7.bk hlt6 b6
   have hn2:n2=N.sz p k c:=by rw[<-s7.len];exact hone.1
   obtain⟨h8,y1,y2,y3,y4⟩:=zO (K:=K1) b7 hl' s7 (lo:=st) (x:=x1) (by omega) hx1
   have w9:IntKind.i64.wrap ((st:Int)+(n2:Int))=((N.start p k (c+1):Nat):Int):=by
    rw[ab.start_cell,hst,<-hn2,Int.natCast_add]
    exact ah (by omega) (by omega)
   have z7:=k7.next
   refine⟨_,h8,y1,_,w9,_,wc,ap p k - (c+1),by omega,c+1,dF costs' l st,rfl,rfl,hcl,rfl,by rw[pL (by rw[s7.len];omega)];exact hl',y2,λk' c' h1 h2 h3 h4=>?_,tA hnn' hlnn,⟨by have:=k6.next;omega,λb hb=>(y4 b (by omega)).trans ((k7.get b (by omega)).trans (k6.get b hb))⟩,by omega⟩
   by_cases e:k=k'/\c=c'
   ·obtain⟨rfl,rfl⟩:=e
    rw[<-hst]
    exact bo.put (by omega) hk1 hkl hcl hone
   ·rw[<-hst]
    exact bo.putO (by omega) hk1 hkl hcl hone.1 h1 h2 h3 e (hc' k' c' h1 h2 h3 (by omega))
  ·obtain rfl:c=ap p k:=by omega
   exact⟨_,wk,p.length+1 - (k+1),by omega,k+1,costs',by rw[ab.start_lev hk1],rfl,by omega,by omega,rfl,hl',b6,λk' c' h1 h2 h3=>hc' k' c' h1 (by omega) h3 (by
    rcases Nat.lt_or_ge k' k with h4 | h4
    ·exact .inl h4
    ·obtain rfl:k' = k:=by omega
     exact .inr ⟨rfl,h3⟩),hnn',k6,hlt6⟩
 ·obtain rfl:k=p.length+1:=by omega
  have:=hK h.next costs h3 b3 (Nat.le_refl _) hlt3 ⟨by omega,λk c h1 h2 h3=>hc k c h1 (by omega) h3⟩ hnn k3
  rwa [hT]at this
end
end Eva
end
section
open Go Go.RowKit
namespace Eva
theorem Eb:tyB Tryz.prog 31 1 24=true:=by kernel_rfl
section
variable {h:AH}{Q:Value->AH->Prop}{F:Nat->Prop}{A:Option Addr}{n K:Nat}{p:List (List Int)}
theorem Cl (hs:Sa aY F h A n K p) (hn:n<=1000) (hm:∀x∈p,x.length<=100000) (hK:∀A' K' h',Sa aY (λb=>h.next<=b) h' A' n K' p->Nw h h'->Q (.agg #[.slice A' n K']) h'):WC Tryz.prog 86 [.agg #[.slice A n K]] h Q:=by
 refine sI λh1 e1 h2 e2 h3 e3=>?_
 obtain⟨k1,g1,z1⟩:=aj e1
 obtain⟨k2,g2,z2⟩:=aj e2
 obtain⟨k3,g3,z3⟩:=aj e3
 have hpl:=hs.len
 refine⟨_,_,_,aa ((k2.trans k3).bk (by omega) g1) rfl,λm x h4=>∃(i:Nat) (A':Option Addr) (K':Nat) (D:Nat->Prop),x=i/\i<=n/\m=n - i/\Bk h4 h2.next [.slice A' i K'] 103/\al aY h4 D 31 A' i K' (p.take i)/\(∀b,D b->h3.next<=b/\b<h4.next)/\h3.next<=h4.next/\(∀b,b<h3.next->b≠h2.next->h4.get b=h3.get b),n,⟨0,none,0,λ_=>False,rfl,Nat.zero_le _,rfl,g3,al.nil _ _ _ _,λb hb=>hb.elim,Nat.le_refl _,λ_ _ _=>rfl⟩,?_⟩
 rintro m x h4 ⟨i,A',K',D,rfl,hi,rfl,b4,o4,hD,hz4,q4⟩
 have k04:Nw h h4:=⟨by omega,λb hb=>(q4 b (by omega) (by omega)).trans (((k1.trans k2).trans k3).get b hb)⟩
 refine⟨λhlt=>?_,λhge=>?_⟩
 ·have hil:i<n:=by omega
  obtain⟨b,o,A3,n3,K3,row,hA,-,-,hr,e0,s0⟩:=(hs.nw k04).row (k:=i) hil
  have hrl:=hm row (List.mem_of_getElem? hr)
  have w1:IntKind.i64.wrap ((i:Int)+1)=((i+1:Nat):Int):=by rw[Int.natCast_succ];exact ah (by omega) (by omega)
  refine⟨i,rfl,b,o,hA,hil,_,_,_,e0,_,_,_,aa b4 rfl,uO s0 (by rw[<-s0.len];exact hrl) λA5 K5 h5 s5 k5=>⟨_,_,_,rfl,aa (k5.bk (by omega) b4) rfl,o4.spot,λh6 e6=>?_⟩⟩
  obtain⟨k6,g6,z6⟩:=aj e6
  have z5:=k5.next
  have hz:Sz aY (λb=>h4.next<=b/\b<h6.next) h6 (some ⟨h5.next,0,none⟩) 1 2 [row]:=Sz.one g6 ⟨by omega,by omega⟩ (by omega) rfl ⟨A5,n3,K5,rfl,(s5.nw k6).mono λb hb hlt=>⟨hb,hlt⟩⟩
  obtain⟨A6,K6,h7,y1,y2,y3,y4⟩:=fL (r:=aY) (bytes:=24) Eb (o4.nw (k5.trans k6)) hz (λb hb ho=>by have:=(hD b (o4.lt ho).1).2;omega) (by omega) (by omega)
  have z7:=y3.next
  have b7:Bk h7 h2.next [.slice A' i K'] 103:=y3.bk (by omega) (λho=>by have:=(hD _ (o4.lt ho).1).1;omega) ((k5.trans k6).bk (by omega) b4)
  obtain⟨h8,s8,b8,z8,o8⟩:=aA (v:=.slice A6 (i+1) K6) b7 (o:=0) (by simp) rfl
  refine⟨A6,i+1,K6,h7,y1,h8,s8,_,w1,n - (i+1),by omega,i+1,A6,K6,λb=>(D b\/(h4.next<=b/\b<h6.next)\/b=h6.next)/\b<h7.next,rfl,hil,rfl,b8,?_,λb hb=>?_,by omega,λb hb hne=>(o8 b hne).trans ((y3.get b (by omega) (λho=>by have:=(hD _ (o4.lt ho).1).1;omega)).trans (((k5.trans k6).get b (by omega)).trans (q4 b hb hne)))⟩
  ·rw[List.take_add_one,hr]
   exact(y2.mono (D':=λb=>(D b\/(h4.next<=b/\b<h6.next)\/b=h6.next)/\b<h7.next) λb hb hlt=>⟨hb,hlt⟩).keep (λb hb _=>o8 b (by
    rcases hb.1 with h9 | h9 | h9
    ·have:=(hD b h9).1;omega
    ·omega
    ·omega)) (by omega)
  ·rcases hb.1 with h9 | h9 | h9
   ·have:=hD b h9;omega
   ·omega
   ·omega
 ·obtain rfl:i=n:=by omega
  rw[List.take_of_length_le (by omega)]at o4
  have b1:Bk h4 h1.next [.slice none 0 0] 103:=(q4 _ (by omega) (by omega)).trans (k3.bk (by omega) g2)
  obtain⟨h9,s9,b9,z9,o9⟩:=aA (v:=.slice A' i K') b1 (o:=0) (by simp) rfl
  refine⟨_,_,_,dL (aa b4 rfl),h9,s9,_,_,_,dL (aa b9 rfl),hK A' K' h9 ((o4.sa.keep (λb hb _=>o9 b (by have:=(hD b hb).1;omega)) (by omega)).mono λb hb _=>by have:=(hD b hb).1;omega) ⟨by omega,λb hb=>(o9 b (by omega)).trans (k04.get b hb)⟩⟩
theorem zP {o:Nat}{N:ab}(O:OvA h F o N p) (hK:∀A' K' h',Sa aY (λb=>h.next<=b) h' A' p.length K' p->Nw h h'->Q (.agg #[.slice A' p.length K']) h'):WC Tryz.prog 40 [.pointer (some ⟨o,0,none⟩)] h Q:=by
 refine kI λh1 e1=>?_
 obtain⟨k1,g1,z1⟩:=aj e1
 obtain⟨A,n,K,c0,s⟩:=(O.nw k1).part
 have hn:=s.len
 have hp6:=O.hp.few
 have hnv:=O.hp.nv_
 refine⟨o,0,rfl,A,n,K,dL c0,Cl s (by omega) (λx hx=>by have:=O.hp.rows x hx;omega) λA' K' h2 s2 k2=>⟨_,_,_,rfl,?_⟩⟩
 have b2:=k2.bk (by omega) g1
 obtain⟨h3,s3,b3,z3,o3⟩:=aA (v:=.slice A' n K') b2 (o:=0) (by simp) rfl
 have z2:=k2.next
 refine⟨h3,s3,_,_,_,dL (aa b3 rfl),?_⟩
 have hh:=hK A' K' h3 (by rw[hn];exact(s2.keep (λb hb _=>o3 b (by omega)) (by omega)).mono λb hb _=>by omega) ⟨by omega,λb hb=>(o3 b (by omega)).trans ((k1.trans k2).get b hb)⟩
 rwa [hn]at hh
end
end Eva
end
section
open Go Go.RowKit
noncomputable def ab.le (N:ab) (p:List (List Int)) (costs:List Int) (s t:Nat) (a b:Nat):Option Nat:=nE N.e (N.lp p (N.ent p costs) (N.lev p s t)) N.to (N.lev p s t) a b
structure wv (N:ab) (p:List (List Int)) (costs:List Int) (s t a:Nat) (ol:List Nat) (pr:List Int):Prop where
 len:pr.length=ol.length
 lt:∀b∈ol,b<N.na
 nn:∀x∈pr,0<=x/\x<=INF
 here:∀(i b:Nat) (x:Int),ol[i]? = some b->pr[i]? = some x->x<INF->N.w b<INF->N.le p costs s t a b=some (x.toNat+(N.w b).toNat)
 all:∀(b y:Nat),N.le p costs s t a b=some y->∃(i:Nat) (x:Int),ol[i]? = some b/\pr[i]? = some x/\x<INF/\N.w b<INF/\y=x.toNat+(N.w b).toNat
 few:ol.length<=N.na
namespace Eva
def zQ (N:ab) (p:List (List Int)) (D:Nat->Prop) (h:AH) (l c:Nat) (v:Value):Prop:=
 ∃A K B L,v = .agg #[.slice A (N.ins p l c).length K,.slice B (N.outs p l c).length L]/\Sa cI D h A (N.ins p l c).length K (ints (N.ins p l c))/\Sa cI D h B (N.outs p l c).length L (ints (N.outs p l c))
structure QA (h0:AH) (N:ab) (p:List (List Int)) (g o C s t q mp bf:Nat) (cA:Option Addr) (cK:Nat) (D:Nat->Prop) (h:AH):Prop where
 nw:Nw h0 h
 blk:Bk h q [.pointer (some ⟨g,0,none⟩),.pointer (some ⟨o,0,none⟩),.slice (some ⟨C,0,none⟩) (N.size p) (cx (N.size p)),.int .i64 s,.int .i64 t,.slice cA p.length cK,.map (some mp),.slice (some ⟨bf,0,none⟩) N.na (cx N.na)] 195
 cells:Sa aY D h cA p.length cK p
 map_:∃f,dN kNN h mp f/\∀l c v,f (l,c)=some v->zQ N p D h l c v
 dlo:∀b,D b->h0.next<=b/\b<h.next/\b≠q/\b≠mp/\b≠bf
 pos:h0.next<=q/\h0.next<=mp/\h0.next<=bf/\q≠mp/\q≠bf/\mp≠bf/\q<h.next/\mp<h.next/\bf<h.next
section
variable {h h' h0:AH}{Q:Value->AH->Prop}{Fa F Fo:Nat->Prop}{N:ab}{p:List (List Int)}{g o C s t q mp bf:Nat}{cA:Option Addr}{cK:Nat}{D:Nat->Prop}{a:Nat}
theorem QA.off {S:Nat->Prop}(B:QA h0 N p g o C s t q mp bf cA cK D h) (m:Mt S h h') (hS:∀b,S b->h0.next<=b/\b≠q/\b≠mp/\¬D b):QA h0 N p g o C s t q mp bf cA cK D h':=by
 obtain⟨p1,p2,p3,p4,p5,p6,p7,p8,p9⟩:=B.pos
 have z:=m.next
 have nD:∀{b},D b->¬S b:=λhd hs=>(hS _ hs).2.2.2 hd
 obtain⟨f,f1,f2⟩:=B.map_
 refine⟨m.is_nw B.nw λb hb=>(hS b hb).1,m.bk p7 (λhs=>(hS _ hs).2.1 rfl) B.blk,B.cells.off m λb hb=>nD hb,⟨f,f1.keep (m.get _ p8 (λhs=>(hS _ hs).2.2.1 rfl)),λl c v hv=>?_⟩,λb hb=>by have:=B.dlo b hb;omega,by omega⟩
 obtain⟨A,K,B',L,e,s1,s2⟩:=f2 l c v hv
 exact⟨A,K,B',L,e,s1.off m λb hb=>nD hb,s2.off m λb hb=>nD hb⟩
theorem QA.next (B:QA h0 N p g o C s t q mp bf cA cK D h) (a:Nw h h'):QA h0 N p g o C s t q mp bf cA cK D h':=B.off (S:=λ_=>False) (Mt.of a) (λb hb=>hb.elim)
theorem Ec:kh Tryz.prog 292 kNN:=by
 obtain⟨i,hi,hsz,-⟩:=bi dK
 exact D8 (d:=.i64) Tryz.underlying292 Tryz.underlying3 hi hsz
theorem Ed:∃i,Tryz.prog.info? 46=some i/\i.zero=some (.agg #[.slice none 0 0,.slice none 0 0]):=by
 obtain⟨i,hi,-⟩:=bi tyG
 refine⟨i,hi,?_⟩
 have:(match Tryz.prog.info? 46 with | some i=>i.zero | none=>none)=some (.agg #[.slice none 0 0,.slice none 0 0]):=by kernel_rfl
 rw[hi]at this
 exact this
theorem Ee (O:OvA h Fo o N p){k d:Nat}(hk:1<=k) (hkl:k<=p.length) (hd:d<ap p k)
  (h1:∀h',a ∉ N.ins p k d\/N.outs p k d = []->Nw h h'->Q (.int .i64 (-1)) h')
  (h2:∀h',a∈N.ins p k d->N.outs p k d≠[]->Nw h h'->Q (.int .i64 ((N.start p k d+(N.ins p k d).idxOf a*(N.outs p k d).length:Nat):Int)) h') :
  WC Tryz.prog 11 [.pointer (some ⟨o,0,none⟩),.int .i64 k,.int .i64 d,.int .i64 (bg (N.ins p k d) a),.int .i64 0] h Q:=by
 by_cases ha:a∈N.ins p k d
 ·have hpl:bg (N.ins p k d) a=(((N.ins p k d).idxOf a:Nat):Int):=by unfold bg;rw[if_pos ha]
  rw[hpl]
  have hidx:=List.idxOf_lt_length_of_mem ha
  by_cases he:N.outs p k d = []
  ·obtain⟨k',rfl⟩:∃k',k=k' + 1:=⟨k - 1,by omega⟩
   have h0:(N.outs p (k' + 1) d).length=0:=by rw[he];rfl
   have hp6:=O.hp.few
   obtain⟨b1,o1,n1,K1,b2,o2,K2,A3,K3,A4,K4,c3,hkn,l1,e2,l2,e3,e4,s3,s4⟩:=O.gate_ (k:=k') (by omega) hd
   rw[h0]at e4
   refine bU (xE O (by omega) (by omega) hd ⟨_,rfl,λ_=>?_,λh=>Bool.noConfusion h⟩)
   refine⟨_,_,rfl,_,_,_,c3,_,ah (by omega) (by omega),k',by omega,_,_,rfl,hkn,_,_,_,e2,d,rfl,_,_,rfl,hd,_,_,_,_,_,_,pc e3 e4,λh2 e7=>?_⟩
   obtain⟨h3,hs3,k3,g3,z3⟩:=ay (vs:=[.slice A3 (N.ins p (k' + 1) d).length K3,.slice A4 0 K4]) e7 rfl (dR rfl rfl)
   exact⟨h3,hs3,λh=>absurd h (by omega),λ_=>⟨_,_,_,aa g3 rfl,λh=>absurd h (by omega),λ_=>⟨λh=>absurd h (by omega),λ_=>⟨_,_,_,aa g3 rfl,λ_=>h1 _ (.inr he) k3,λh=>absurd (Int.le_refl _) h⟩⟩⟩⟩
  ·have h0:0<(N.outs p k d).length:=by cases hx:N.outs p k d with | nil=>exact absurd hx he | cons x l=>simp
   refine oAt O (j:=0) (by omega) (by omega) hd hidx h0 λh' k'=>?_
   have:=h2 h' ha he k'
   rwa [Nat.add_zero]
 ·have hpl:bg (N.ins p k d) a = -1:=by unfold bg;rw[if_neg ha]
  rw[hpl]
  obtain⟨k',rfl⟩:∃k',k=k' + 1:=⟨k - 1,by omega⟩
  have hp6:=O.hp.few
  obtain⟨b1,o1,n1,K1,b2,o2,K2,A3,K3,A4,K4,c3,hkn,l1,e2,l2,e3,e4,s3,s4⟩:=O.gate_ (k:=k') (by omega) hd
  refine bU (xE O (by omega) (by omega) hd ⟨_,rfl,λ_=>?_,λh=>Bool.noConfusion h⟩)
  refine⟨_,_,rfl,_,_,_,c3,_,ah (by omega) (by omega),k',by omega,_,_,rfl,hkn,_,_,_,e2,d,rfl,_,_,rfl,hd,_,_,_,_,_,_,pc e3 e4,λh2 e7=>?_⟩
  obtain⟨h3,hs3,k3,g3,z3⟩:=ay (vs:=[.slice A3 (N.ins p (k' + 1) d).length K3,.slice A4 (N.outs p (k' + 1) d).length K4]) e7 rfl (dR rfl rfl)
  exact⟨h3,hs3,λ_=>h1 _ (.inl ha) k3,λh=>absurd (show(-1:Int)<0 by omega) h⟩
end
end Eva
end
section
open Go Go.RowKit
namespace Eva
theorem tB {xs:List Int}{ys:List Int}{i:Nat}{y:Int}(hy:ys[i]? = some y):(ys.take i ++ List.replicate (ys.length - i) 0).set i y=ys.take (i+1) ++ List.replicate (ys.length - (i+1)) 0:=by
 have hi:=(List.getElem?_eq_some_iff.1 hy).1
 rw[List.set_append_right _ _ (by rw[List.length_take];omega),List.length_take,Nat.min_eq_left (by omega),Nat.sub_self,show ys.length - i=(ys.length - (i+1))+1 by omega,List.replicate_succ,List.set_cons_zero,List.take_add_one,hy,List.append_assoc]
 rfl
section
variable {h h0:AH}{Q:Value->AH->Prop}{Fa F Fo:Nat->Prop}{N:ab}{p:List (List Int)}{g o C s t q mp bf:Nat}{cA:Option Addr}{cK:Nat}{D:Nat->Prop}{a l:Nat}{costs:List Int}
theorem xO {h:AH}{E:Nat->Prop}{lo no:Nat}(bc:Bk h C (costs.map (Value.int .i64)) 2) (hC:C<h.next) (hE:E C) (hlo:lo+no<=costs.length) (K:Nat):Sa cI E h (some ⟨C,lo,none⟩) no K ((costs.drop lo).take no):=by
 refine⟨by rw[List.length_take,List.length_drop];omega,.inr ⟨_,_,rfl⟩,λ_=>⟨C,lo,rfl,hE,hC,λk x hk=>⟨[.int .i64 x],λj u hu=>?_,rfl⟩⟩⟩
 rw[List.getElem?_take]at hk
 split at hk
 ·rw[List.getElem?_drop]at hk
  match j,hu with
  | 0,hu=>
   obtain rfl:=Option.some.inj hu
   show ldC h C (lo+(k*1+0))=_
   rw[aP bc,Nat.mul_one,Nat.add_zero,List.getElem?_map,hk];rfl
 ·cases hk
end
end Eva
end
section
open Go Go.RowKit
namespace Eva
section
variable {h h':AH}{Fa F Fp:Nat->Prop}{g:Nat}{N:ab}{p:List (List Int)}{Q:Value->AH->Prop}{A:Option Addr}{n K:Nat}
def tC (f:Nat->Nat) (i:Nat):List Int:=(List.range i).map λa=>((f a:Nat):Int)
theorem og (f:Nat->Nat) (i:Nat):tC f (i+1)=tC f i ++ [((f i:Nat):Int)]:=by
 unfold tC
 rw[List.range_succ,List.map_append];rfl
theorem tD (N:ab) (p:List (List Int)) (k:Nat):(N.startsL p k).length=ap p k:=by simp[ab.startsL]
theorem zR (G:GrA h Fa F g N) (hp:ax N.nv p) (hs:Sa aY Fp h A n K p) (hfew:N.size p<=10000000)
  (hK:∀o h',OvA h' (λb=>h.next<=b) o N p->Nw h h'->Q (.tuple #[.pointer (some ⟨o,0,none⟩),.nilIface]) h'):WC Tryz.prog 142 [.pointer (some ⟨g,0,none⟩),.agg #[.slice A n K]] h Q:=by
 have hn:=hs.len
 have h6:=hp.few
 have hna:=G.few.2
 have hnv:=G.few.1
 refine uv λh1 e1=>?_
 obtain⟨k1,g1,z1⟩:=aj e1
 have box:∀{h'},Nw h1 h'->ldN h' h.next 0 1=some [.slice A n K]:=λa=>dL (aa (a.bk (by omega) g1) rfl)
 refine⟨A,n,K,box (Nw.refl _),zw (G.nw k1) ⟨_,rfl,box (Nw.refl _),zF hs.eqok,nZ (hs.nw k1) hp λh3 k3=>⟨none,rfl,λ_=>⟨A,n,K,box k3,A,n,K,box k3,?_⟩,λt u h=>by cases h⟩⟩⟩
 refine Cl (hs.nw (k1.trans k3)) (by omega) (λx hx=>by rw[hp.rows x hx];omega) λA5 K5 h4 s4 k4=>⟨_,_,_,rfl,box (k3.trans k4),zF hs.eqok,?_⟩
 have k14:=k3.trans k4
 refine Bw (G.nw (k1.trans k14)) hp (hs.nw (k1.trans k14)) λA6 n6 K6 h5 s5 k5=>⟨_,_,_,rfl,λh6' e6=>?_⟩
 obtain⟨k6,g6,z6⟩:=aj e6
 have k16:=(k14.trans k5).trans k6
 have z3:=k3.next
 have z4:=k4.next
 have z5:=k5.next
 have hn6:n6=p.length:=by have:=s5.len;simpa using this.symm
 refine pW (G.nw (k1.trans k16)) ⟨_,rfl,λm x h8=>∃(i:Nat) (A1:Option Addr) (K1:Nat) (A2:Option Addr) (K2:Nat),x=i/\i<=N.na/\m=N.na - i/\Bk h8 h5.next [.slice A5 n K5,.slice A1 i K1,.slice A2 i K2,.slice A6 n6 K6,.slice none 0 0,.int .i64 0] 106/\
  al cI h8 (af A1) 3 A1 i K1 (tC N.fr i)/\al cI h8 (af A2) 3 A2 i K2 (tC N.to i)/\(∀z,af A1 z->h6'.next<=z)/\(∀z,af A2 z->h6'.next<=z)/\(∀z,af A1 z->¬af A2 z)/\Mt (λz=>z=h5.next) h6' h8,N.na,⟨0,none,0,none,0,rfl,Nat.zero_le _,rfl,g6,al.nil _ _ _ _,al.nil _ _ _ _,λz hz=>hz.elim,λz hz=>hz.elim,λz hz=>hz.elim,Mt.refl _ _⟩,?_⟩
 rintro m x h8 ⟨i,A1,K1,A2,K2,rfl,hi,hm,b8,o1,o2,lo1,lo2,dj,m8⟩
 have z8:=m8.next
 have G8:GrA h8 Fa F g N:=(G.nw (k1.trans (k14.trans k5))).nw ((Mt.of k6).then m8 |>.is_nw (Nw.refl _) λz hz=>by omega)
 refine⟨λhlt=>?_,λhge=>?_⟩
 ·have wi:IntKind.i64.wrap ((i:Int)+1)=((i+1:Nat):Int):=by rw[Int.natCast_succ];exact ah (by omega) (by omega)
  refine⟨_,_,_,aa b8 rfl,pV G8 (by omega) ⟨_,rfl,aa b8 rfl,o1.spot,λh10 e10=>?_⟩⟩
  obtain⟨k10,g10,z10⟩:=aj e10
  obtain⟨A1',K1',h11,y1,y2,y3,y4⟩:=aX dX dK (o1.nw k10) (Sz.one (r:=cI) (L:=2) (F:=λz=>z=h8.next) g10 rfl (by omega) rfl rfl) (by omega) (by omega)
  have z11:=y3.next
  have b11:=y3.bk (by omega) (λho=>by have:=lo1 _ ho;omega) (k10.bk (by omega) b8)
  obtain⟨h12,s12,b12,z12,q12⟩:=aA (v:=.slice A1' (i+1) K1') b11 (o:=1) (by simp) rfl
  have m12:Mt (λz=>z=h5.next) h11 h12:=⟨by omega,λz _ hn=>q12 z hn⟩
  have lo1':∀z,af A1' z->h6'.next<=z:=λz hz=>(y4 z hz).elim (lo1 z) (λh=>by omega)
  have o1':=y2.off m12 λz hz _ e=>by have:=lo1' z hz;omega
  have o2':=((o2.nw k10).off y3 λz hz _ ho=>dj z ho hz).off m12 λz hz _ e=>by have:=lo2 z hz;omega
  have m812:Mt (λz=>z=h5.next) h6' h12:=((m8.nw k10).trans y3 λz hz hlt=>by have:=lo1 z hz;omega).then m12
  have G12:GrA h12 Fa F g N:=(G.nw (k1.trans (k14.trans k5))).nw ((Mt.of k6).then m812 |>.is_nw (Nw.refl _) λz hz=>by omega)
  refine⟨A1',i+1,K1',h11,y1,h12,s12,_,_,_,aa b12 rfl,aTo G12 (by omega) ⟨_,rfl,aa b12 rfl,o2'.spot,λh14 e14=>?_⟩⟩
  obtain⟨k14',g14,z14⟩:=aj e14
  obtain⟨A2',K2',h15,x1,x2,x3,x4⟩:=aX dX dK (o2'.nw k14') (Sz.one (r:=cI) (L:=2) (F:=λz=>z=h12.next) g14 rfl (by omega) rfl rfl) (by omega) (by omega)
  have z15:=x3.next
  have b15:=x3.bk (by omega) (λho=>by have:=lo2 _ ho;omega) (k14'.bk (by omega) b12)
  obtain⟨h16,s16,b16,z16,q16⟩:=aA (v:=.slice A2' (i+1) K2') b15 (o:=2) (by simp) rfl
  have m16:Mt (λz=>z=h5.next) h15 h16:=⟨by omega,λz _ hn=>q16 z hn⟩
  have dj':∀z,af A1' z->¬af A2 z:=λz hz ho=>(y4 z hz).elim (λh=>dj z h ho) (λh=>by have:=o2.own ho;omega)
  refine⟨A2',i+1,K2',h15,x1,h16,s16,_,wi,N.na - (i+1),by omega,i+1,A1',K1',A2',K2',rfl,by omega,rfl,b16,?_,?_,lo1',λz hz=>(x4 z hz).elim (lo2 z) (λh=>by omega),λz hz ho=>(x4 z ho).elim (λh=>dj' z hz h) (λh=>by have:=o1'.own hz;omega),?_⟩
  ·rw[og]
   exact((o1'.nw k14').off x3 λz hz _ ho=>dj' z hz ho).off m16 λz hz _ e=>by have:=lo1' z hz;omega
  ·rw[og]
   exact x2.off m16 λz hz _ e=>(x4 z hz).elim (λh=>by have:=lo2 z h;omega) (λh=>by omega)
  ·exact((m812.nw k14').trans x3 λz hz hlt=>by have:=lo2 z hz;omega).then m16
 ·obtain rfl:i=N.na:=by omega
  refine⟨A6,n6,K6,aa b8 rfl,λm x h17=>∃(k:Nat) (D:Nat->Prop) (A7:Option Addr) (K7:Nat),x=k/\k<=n6/\m=n6 - k/\Bk h17 h5.next [.slice A5 n K5,.slice A1 N.na K1,.slice A2 N.na K2,.slice A6 n6 K6,.slice A7 k K7,.int .i64 ((bw (N.lsz p) k:Nat):Int)] 106/\
   al aY h17 D 31 A7 k K7 ((List.range k).map λj=>N.startsL p (j+1))/\(∀z,D z->h8.next<=z/\z<h17.next)/\Mt (λz=>z=h5.next) h8 h17,n6,⟨0,λ_=>False,none,0,rfl,Nat.zero_le _,rfl,by simpa[bw]using b8,al.nil _ _ _ _,λz hz=>hz.elim,Mt.refl _ _⟩,?_⟩
  rintro m x h17 ⟨k,D,A7,K7,rfl,hk,hm,b17,o7,hD,m17⟩
  have z17:=m17.next
  have m617:=m8.then m17
  have s617:Sa (Rc.slice Rc.gate) (λb=>h4.next<=b/\b<h5.next) h17 A6 n6 K6 ((List.range p.length).map λj=>N.gatesL p (j+1)):=((s5.mono λz hz hlt=>⟨hz,hlt⟩).nw k6).off m617 λz hz e=>by omega
  refine⟨λhlt=>?_,λhge=>?_⟩
  ·have hkl:k<p.length:=by omega
   obtain⟨b1,p1,A12,n12,K12,x,hA,-,hb1,hx,e1',s12⟩:=s617.row (k:=k) (by omega)
   have hx2:x=N.gatesL p (k+1):=by simp[hkl]at hx;exact hx.symm
   subst hx2
   have hn12:ap p (k+1)=n12:=by have:=s12.len;simpa[ab.gatesL]using this
   have hmf:=vZ hp (k:=k+1) (by omega) (by omega)
   have wk:IntKind.i64.wrap ((k:Int)+1)=((k+1:Nat):Int):=by rw[Int.natCast_succ];exact ah (by omega) (by omega)
   refine⟨k,rfl,b1,p1,hA,by omega,A12,n12,K12,e1',by omega,λh18 e18=>?_⟩
   obtain⟨k18,g18,z18⟩:=aj e18
   rw[a9]at g18
   obtain⟨ys,hys⟩:∃ys,N.startsL p (k+1)=ys:=⟨_,rfl⟩
   have hyl:ys.length=n12:=by rw[<-hys,tD,hn12]
   have hst0:N.start p (k+1) 0=bw (N.lsz p) k:=by simp[ab.start,bw]
   refine⟨λm x h19=>∃c:Nat,x=c/\c<=n12/\m=n12 - c/\Bk h19 h17.next ((ys.take c ++ List.replicate (ys.length - c) 0).map (Value.int .i64)) 3/\Bk h19 h5.next [.slice A5 n K5,.slice A1 N.na K1,.slice A2 N.na K2,.slice A6 n6 K6,.slice A7 k K7,.int .i64 ((N.start p (k+1) c:Nat):Int)] 106/\Mt (λz=>z=h5.next) h17 h19/\h17.next<h19.next,n12,⟨0,rfl,Nat.zero_le _,rfl,?_,by rw[hst0];exact k18.bk (by omega) b17,Mt.of k18,by omega⟩,?_⟩
   ·rw[List.take_zero,List.nil_append,hyl,Nat.sub_zero,List.map_replicate]
    exact g18
   rintro m' x h19 ⟨c,rfl,hc,hm',b19,a19,m19,lt19⟩
   have z19:=m19.next
   refine⟨λhlt'=>?_,λhge'=>?_⟩
   ·have hc':c<ap p (k+1):=by omega
    obtain⟨b2,p2,A13,n13,K13,A14,n14,K14,u,v,hA12,hF2,hb2,hy,e2,e3,s13,s14⟩:=(s12.off m19 λz hz e=>by omega).gate (k:=c) (by omega)
    have hy2:(u,v)=(ints (N.ins p (k+1) c),ints (N.outs p (k+1) c)):=by simp[ab.gatesL,hc']at hy;rw[<-hy.1,<-hy.2]
    injection hy2 with q1 q2
    subst q1 q2
    have q3:(N.ins p (k+1) c).length=n13:=by simpa[ints]using s13.len
    have q4:(N.outs p (k+1) c).length=n14:=by simpa[ints]using s14.len
    refine⟨c,rfl,b2,p2,hA12,by omega,A13,n13,K13,A14,n14,K14,pc e2 e3,λh20 e20=>?_⟩
    obtain⟨h21,s21,k21,g21,z21⟩:=ay (vs:=[.slice A13 n13 K13,.slice A14 n14 K14]) e20 rfl (dR rfl rfl)
    have a21:=k21.bk (by omega) a19
    have b21:=k21.bk (by omega) b19
    obtain⟨h22,s22,b22,z22,q22⟩:=aA (v:=.int .i64 ((N.start p (k+1) c:Nat):Int)) b21 (o:=0+c) (by simp;omega) rfl
    have a22:=(q22 _ (by omega)).trans a21
    have g22:=(q22 _ (by omega)).trans g21
    have hse:=ab.start_end (N:=N) (k:=k+1) (c:=c) (by omega) (by omega) hc'
    have hsz:N.sz p (k+1) c=n13*n14:=by unfold ab.sz;rw[q3,q4]
    rw[hsz]at hse
    obtain⟨t,ht⟩:∃t,n13*n14=t:=⟨_,rfl⟩
    rw[ht]at hse hsz
    have w1:IntKind.i64.wrap ((n13:Int)*(n14:Int))=(t:Int):=by rw[<-Int.natCast_mul,ht];exact ah (by omega) (by omega)
    have hnx:N.start p (k+1) (c+1)=N.start p (k+1) c+t:=by rw[ab.start_cell,hsz]
    have w2:IntKind.i64.wrap (((N.start p (k+1) c:Nat):Int)+(t:Int))=((N.start p (k+1) (c+1):Nat):Int):=by rw[hnx,Int.natCast_add];exact ah (by omega) (by omega)
    have wc:IntKind.i64.wrap ((c:Int)+1)=((c+1:Nat):Int):=by rw[Int.natCast_succ];exact ah (by omega) (by omega)
    obtain⟨h23,s23,b23,z23,q23⟩:=aA (v:=.int .i64 ((N.start p (k+1) (c+1):Nat):Int)) a22 (o:=5) (by simp) rfl
    refine⟨h21,s21,_,aa a21 rfl,by omega,h22,s22,_,aa a22 rfl,_,_,_,aa g22 rfl,_,_,_,aa g22 rfl,_,w1,_,w2,h23,s23,_,wc,n12 - (c+1),by omega,c+1,rfl,by omega,rfl,?_,b23,?_,by omega⟩
    ·rw[Nat.zero_add,<-List.map_set]at b22
     have hyc:ys[c]? = some ((N.start p (k+1) c:Nat):Int):=by rw[<-hys];simp[ab.startsL,hc']
     have hps:=tB (xs:=ys) hyc
     rw[hps]at b22
     exact(q23 _ (by omega)).trans b22
    ·exact⟨by omega,λz hz hn=>(q23 z hn).trans ((q22 z (by omega)).trans ((k21.get z (by omega)).trans (m19.get z hz hn)))⟩
   ·obtain rfl:c=n12:=by omega
    rw[List.take_of_length_le (by omega),hyl,Nat.sub_self,List.replicate_zero,List.append_nil]at b19
    refine⟨_,_,_,aa a19 rfl,λh24 e24=>?_⟩
    obtain⟨k24,g24,z24⟩:=aj e24
    have o19:=(o7.off m19 λz hz _ e=>by have:=(hD z hz).1;omega).nw k24
    have hz:Sz aY (λz=>z=h17.next\/z=h19.next) h24 (some ⟨h19.next,0,none⟩) 1 2 [ys]:=Sz.one g24 (.inr rfl) (by omega) rfl ⟨some ⟨h17.next,0,none⟩,c,cx c,rfl,Sa.of_ints (k24.bk (by omega) b19) hyl (.inl rfl) (by omega)⟩
    obtain⟨A18,K18,h25,y1,y2,y3,y4⟩:=fL (r:=aY) (bytes:=24) Eb o19 hz (λb hb ho=>by have:=(hD b (o7.lt ho).1).2;omega) (by omega) (by omega)
    have z25:=y3.next
    have nO:¬af A7 h5.next:=λho=>by have:=(hD _ (o7.lt ho).1).1;omega
    have b25:=y3.bk (by omega) nO (k24.bk (by omega) a19)
    obtain⟨h26,s26,b26,z26,q26⟩:=aA (v:=.slice A18 (k+1) K18) b25 (o:=4) (by simp) rfl
    have hse:N.start p (k+1) c=bw (N.lsz p) (k+1):=by
     rw[<-hn12]
     unfold ab.start
     rw[Nat.add_sub_cancel]
     rfl
    refine⟨A18,k+1,K18,h25,y1,h26,s26,_,wk,n6 - (k+1),by omega,k+1,λz=>(D z\/(z=h17.next\/z=h19.next)\/z=h24.next)/\z<h25.next,A18,K18,rfl,by omega,rfl,by rw[<-hse];exact b26,?_,λz hz=>?_,?_⟩
    ·rw[List.range_succ,List.map_append,List.map_singleton,hys]
     refine(y2.mono (D':=λz=>(D z\/(z=h17.next\/z=h19.next)\/z=h24.next)/\z<h25.next) λz hz hlt=>⟨hz,hlt⟩).keep (λz hz _=>q26 z ?_) (by omega)
     rcases hz.1 with h9 | h9 | h9
     ·have:=(hD z h9).1;omega
     ·omega
     ·omega
    ·rcases hz.1 with h9 | h9 | h9
     ·have:=hD z h9;omega
     ·omega
     ·omega
    ·exact((m17.then m19).nw k24).trans y3 (λz hz hlt=>by have:=(hD z (o7.lt hz).1).1;omega) |>.then ⟨by omega,λz _ hn=>q26 z hn⟩
  ·obtain rfl:k=n6:=by omega
   subst hn6
   have k117:Nw h1 h17:=((Mt.of k6).then m617).is_nw (k14.trans k5) λz hz=>by omega
   have kk:=k1.trans k117
   have z117:=k117.next
   refine hK h5.next h17 ⟨⟨by omega,by omega⟩,⟨_,_,_,aa b17 rfl,?_⟩,⟨_,_,_,aa b17 rfl,?_⟩,⟨_,_,_,aa b17 rfl,?_⟩,⟨_,_,_,aa b17 rfl,s617.mono λz hz _=>by omega⟩,⟨_,_,_,aa b17 rfl,o7.sa.mono λz hz _=>by have:=(hD z hz).1;omega⟩,aa b17 rfl,hp,hfew,G.ok,⟨hnv,hna⟩⟩ kk
   ·exact((((s4.mono λz hz hlt=>(⟨hz,hlt⟩:h3.next<=z/\z<h4.next)).nw (k5.trans k6)).off m617 λz hz e=>by omega)).mono λz hz _=>by omega
   ·exact(o1.sa.off m17 λz hz e=>by have:=lo1 z hz;omega).mono λz hz _=>by have:=lo1 z hz;omega
   ·exact(o2.sa.off m17 λz hz e=>by have:=lo2 z hz;omega).mono λz hz _=>by have:=lo2 z hz;omega
end
end Eva
end
section
open Go Go.RowKit
theorem tE (f g:Nat->Nat):∀n,bw (λi=>f i+g i) n=bw f n+bw g n
 | 0=>rfl
 | n+1=>by
  show bw (λi=>f i+g i) n+(f n+g n)=bw f n+f n+(bw g n+g n)
  rw[tE f g n];omega
theorem qc {f:Nat->Bool}{c0:Nat}(h:∀c,f c=true->c=c0):∀n,bw (λc=>if f c then 1 else 0) n<=if c0<n then 1 else 0
 | 0=>by simp[bw]
 | n+1=>by
  have ih:=qc h n
  show bw (λc=>if f c then 1 else 0) n+(if f n then 1 else 0)<=_
  by_cases e:f n=true
  ·have:=h n e
   subst this
   rw[if_neg (Nat.lt_irrefl _)]at ih
   simp[e]
   omega
  ·simp[e]
   by_cases h1:c0<n
   ·rw[if_pos h1]at ih
    rw[if_pos (by omega)]
    simpa using ih
   ·rw[if_neg h1]at ih
    have:bw (λc=>if f c=true then 1 else 0) n<=0:=ih
    split <;>omega
theorem qd {f:Nat->Nat->Bool}{q:Nat->Nat}(h:∀c a,f c a=true->c=q a) (m:Nat):∀n,bw (λc=>(bD (f c) n).length) m<=n
 | 0=>by
  have:∀m,bw (λc=>(bD (f c) 0).length) m=0:=λm=>by
   induction m with
   | zero=>rfl
   | succ m ih=>show bw _ m+(bD (f m) 0).length=0;rw[ih];rfl
  rw[this];exact Nat.le_refl _
 | n+1=>by
  have e:(λc=>(bD (f c) (n+1)).length)=λc=>(bD (f c) n).length+if f c n then 1 else 0:=by
   funext c
   rw[gf]
   split <;>simp
  rw[e,tE]
  have h1:=qd h m n
  have h2:=qc (f:=λc=>f c n) (λc=>h c n) m
  have h3:(if q n<m then 1 else 0)<=1:=by split <;>omega
  omega
theorem kj {N:ab}{p:List (List Int)}(hna:N.na<=300) (hp:p.length<=6):N.size p<1000000:=by
 have h1:∀j,N.lsz p j<=90000:=λj=>by
  unfold ab.lsz
  have h2:∀m,bw (N.sz p (j+1)) m<=bw (λc=>(N.ins p (j+1) c).length) m*300:=λm=>by
   induction m with
   | zero=>simp[bw]
   | succ m ih=>
    show bw (N.sz p (j+1)) m+N.sz p (j+1) m<=(bw _ m+(N.ins p (j+1) m).length)*300
    rw[Nat.add_mul]
    have:N.sz p (j+1) m<=(N.ins p (j+1) m).length*300:=Nat.mul_le_mul_left _ (Nat.le_trans (aC _ _) hna)
    omega
  have h3:bw (λc=>(N.ins p (j+1) c).length) (ap p (j+1))<=N.na:=qd (f:=λc a=>N.insB p (j+1) c a) (q:=λa=>cel p (j+1) (N.to a)) (λc a h=>by simp[ab.insB]at h;exact h.1.symm) _ _
  have h5:=h2 (ap p (j+1))
  have h6:bw (λc=>(N.ins p (j+1) c).length) (ap p (j+1))*300<=300*300:=Nat.mul_le_mul_right _ (Nat.le_trans h3 hna)
  exact Nat.le_trans h5 h6
 have h4:=Ba h1 p.length
 unfold ab.size
 have:p.length*(90000)<=6*(90000):=Nat.mul_le_mul_right _ hp
 omega
namespace Eva
section
variable {h h':AH}{F G:Nat->Prop}{Q:Value->AH->Prop}{A Av Aa At Ap:Option Addr}{n K nv Kv na Ka nt Kt np Kp:Nat}{N:ab}{p:List (List Int)}
theorem zS (Z:cz h F Av nv Kv Aa na Ka At nt Kt N) (hf:nY N) (ok:N.Ok) (hK:∀g h' Fa Ft F,GrX h' Fa Ft F g N->(∀z,Fa z\/Ft z\/F z->h.next<=z)->Nw h h'->Q (.pointer (some ⟨g,0,none⟩)) h') :
  WC Tryz.prog 77 [.agg #[.slice Av nv Kv,.slice Aa na Ka,.slice At nt Kt]] h Q:=by
 have lv:=Z.vs.len
 have la:=Z.xa.len
 have lt:=Z.ts.len
 obtain⟨f1,f2,f3,f4⟩:=hf
 refine tT λh1 e1=>?_
 obtain⟨k1,g1,z1⟩:=aj e1
 have Z1:=Z.nw k1
 refine⟨_,_,_,_,_,_,_,_,_,aG (aa g1 rfl) (aa g1 rfl) (aa g1 rfl),EB Z1.vs Z1.xa Z1.ts (by omega) (by omega) (by omega) (λt ht=>by have:=f4 t ht;omega) λA1 K1 A2 K2 A3 K3 h2 s1 s2 s3 k2=>⟨_,_,_,_,_,_,_,_,_,rfl,?_⟩⟩
 have z2:=k2.next
 exact xI s1 s2 s3 ok (by omega) λg h3 Fa Ft F' G lo k3=>⟨_,none,rfl,λ_=>hK g h3 Fa Ft F' G (λz hz=>by have:=lo z hz;omega) ((k1.trans k2).trans k3),λt u h=>by cases h⟩
theorem BE (Z:cz h F Av nv Kv Aa na Ka At nt Kt N) (hf:nY N) (ok:N.Ok) (hs:Sz (Rc.sliceZ cI) G h Ap np Kp p) (hp:ax N.nv p) (hK:∀o h',OvA h' (λz=>h.next<=z) o N p->Nw h h'->Q (.pointer (some ⟨o,0,none⟩)) h') :
  WC Tryz.prog 78 [.agg #[.slice Av nv Kv,.slice Aa na Ka,.slice At nt Kt],.agg #[.slice Ap np Kp]] h Q:=by
 have ln:=hs.len
 have h6:=hp.few
 have hnv:=hp.nv_
 have hsz:=kj (N:=N) (p:=p) hf.2.1 h6
 refine rJ λh1 e1 h2 e2=>?_
 obtain⟨k1,g1,z1⟩:=aj e1
 obtain⟨k2,g2,z2⟩:=aj e2
 have k12:=k1.trans k2
 have g12:=k2.bk (by omega) g1
 refine⟨_,_,_,_,_,_,_,_,_,aG (aa g12 rfl) (aa g12 rfl) (aa g12 rfl),zS (Z.nw k12) hf ok λg h3 Fa Ft F' X3 lo k3=>⟨_,rfl,(λh=>by cases h),λ_=>⟨g,0,rfl,_,_,_,dL (aa (k3.bk (by omega) g2) rfl),?_⟩⟩⟩
 have G3:=X3.gr
 have k13:=k12.trans k3
 refine DY (hs.nw k13) (by omega) (λx hx=>by rw[hp.rows x hx];omega) λA' K' h4 s4 k4=>⟨_,_,_,rfl,?_⟩
 have z4:=(k13.trans k4).next
 refine zR (G3.nw k4) hp s4 (by omega) λo h5 O k5=>⟨_,none,rfl,λ_=>hK o h5 ?_ ((k13.trans k4).trans k5),λt u h=>by cases h⟩
 obtain⟨⟨w1,w2⟩,⟨a1,a2,a3,a4,a5⟩,⟨b1,b2,b3,b4,b5⟩,⟨c1,c2,c3,c4,c5⟩,⟨d1,d2,d3,d4,d5⟩,⟨e1,e2,e3,e4,e5⟩,q1,q2,q3,q4,q5⟩:=O
 exact⟨⟨by omega,w2⟩,⟨a1,a2,a3,a4,a5.mono λz hz _=>by omega⟩,⟨b1,b2,b3,b4,b5.mono λz hz _=>by omega⟩,⟨c1,c2,c3,c4,c5.mono λz hz _=>by omega⟩,⟨d1,d2,d3,d4,d5.mono λz hz _=>by omega⟩,⟨e1,e2,e3,e4,e5.mono λz hz _=>by omega⟩,q1,q2,q3,q4,q5⟩
theorem ww {a b c:Value}(ha:jL 5 a) (hb:jL 5 b) (hc:jL 5 c):aZ (.agg #[a,b,c]):=by
 intro v hv
 have hv':v=a\/v=b\/v=c:=by simpa using hv
 rcases hv' with rfl | rfl | rfl
 ·exact ha
 ·exact hb
 ·exact hc
theorem Sz.ok5 {α:Type}{r:Rc α}{F:Nat->Prop}{xs:List α}(hs:Sz r F h A n K xs) (hn:0<n):jL 5 (.slice A n K):=by
 obtain⟨b,o,rfl,-⟩:=hs.at_ hn
 rfl
theorem Dd {a:Value}(ha:jL 5 a):aZ (.agg #[a]):=by
 intro v hv
 have hv':v=a:=by simpa using hv
 subst hv'
 exact ha
structure km (h0 h:AH) (g o C:Nat) (costs:List Int) (N:ab) (p:List (List Int)):Prop where
 gr:∃Fa Ft F,GrX h Fa Ft F g N/\(∀z,Fa z\/Ft z\/F z->h0.next<=z)/\∃Fo,OvA h Fo o N p/\(∀z,Fo z->h0.next<=z/\¬Fa z/\¬Ft z)/\¬Fa C/\¬Ft C
 cs:Bk h C (costs.map (Value.int .i64)) 2
 cp:h0.next<=C/\C<h.next
 ok:ch N p costs
 nn:∀x∈costs,0<=x
theorem OvA.mono {o:Nat}{Fo Fo':Nat->Prop}(O:OvA h Fo o N p) (hF:∀z,Fo z->z<h.next->Fo' z):OvA h Fo' o N p:=by
 obtain⟨⟨w1,w2⟩,⟨a1,a2,a3,a4,a5⟩,⟨b1,b2,b3,b4,b5⟩,⟨c1,c2,c3,c4,c5⟩,⟨d1,d2,d3,d4,d5⟩,⟨e1,e2,e3,e4,e5⟩,q1,q2,q3,q4,q5⟩:=O
 exact⟨⟨hF _ w1 w2,w2⟩,⟨a1,a2,a3,a4,a5.mono hF⟩,⟨b1,b2,b3,b4,b5.mono hF⟩,⟨c1,c2,c3,c4,c5.mono hF⟩,⟨d1,d2,d3,d4,d5.mono hF⟩,⟨e1,e2,e3,e4,e5.mono hF⟩,q1,q2,q3,q4,q5⟩
theorem GrX.lt {g:Nat}{Fa Ft F:Nat->Prop}(X:GrX h Fa Ft F g N):GrX h (λz=>Fa z/\z<h.next) (λz=>Ft z/\z<h.next) (λz=>F z/\z<h.next) g N:=by
 obtain⟨o,⟨a1,a2,a3,a4,a5⟩,⟨b1,b2,b3,b4,b5⟩,⟨c1,c2,c3,c4,c5⟩,⟨d1,d2,d3,d4,d5⟩,⟨e1,e2,e3,e4,e5⟩,⟨f1,f2,f3,f4,f5⟩,ok,fw,dj⟩:=X
 exact⟨⟨⟨o.1,o.2⟩,o.2⟩,⟨a1,a2,a3,a4,a5.mono λz hz hl=>⟨hz,hl⟩⟩,⟨b1,b2,b3,b4,b5.mono λz hz hl=>⟨hz,hl⟩⟩,⟨c1,c2,c3,c4,c5.mono λz hz hl=>⟨hz,hl⟩⟩,⟨d1,d2,d3,d4,d5.mono λz hz hl=>⟨hz,hl⟩⟩,⟨e1,e2,e3,e4,e5.mono λz hz hl=>⟨hz,hl⟩⟩,⟨f1,f2,f3,f4,f5.mono λz hz hl=>⟨hz,hl⟩⟩,ok,fw,λz=>⟨λhz=>⟨λh=>((dj z).1 hz.1).1 h.1,λh=>((dj z).1 hz.1).2 h.1⟩,λhz h=>(dj z).2 hz.1 h.1⟩⟩
theorem zT (Z:cz h F Av nv Kv Aa na Ka At nt Kt N) (hf:nY N) (ok:N.Ok) (hna:0<na) (hs:Sz (Rc.sliceZ cI) G h Ap np Kp p) (hp:ax N.nv p)
  (hK:∀g o C costs h',km h h' g o C costs N p->Nw h h'->Q (.tuple #[.pointer (some ⟨g,0,none⟩),.pointer (some ⟨o,0,none⟩),.slice (some ⟨C,0,none⟩) (N.size p) (cx (N.size p)),.bool true]) h') :
  WC Tryz.prog 31 [.agg #[.slice Av nv Kv,.slice Aa na Ka,.slice At nt Kt],.agg #[.slice Ap np Kp]] h Q:=by
 have lv:=Z.vs.len
 have la:=Z.xa.len
 have lt:=Z.ts.len
 have ln:=hs.len
 have h1p:=hp.some_
 have hto:=ab.to_lt (N:=N) ok (a:=0) (by show 0<N.xa.length;omega)
 have hnv:0<nv:=by have:=hto.1;unfold ab.nv at this;omega
 have hnt:0<nt:=by
  have hv:N.vs[0]? = some (N.vs[0]'(by omega)):=List.getElem?_eq_getElem _
  have:=ok.verts_ _ (List.mem_of_getElem? hv)
  omega
 have hsz:=kj (N:=N) (p:=p) hf.2.1 hp.few
 refine pd λh1 e1 h2 e2=>?_
 obtain⟨k1,g1,z1⟩:=aj e1
 obtain⟨k2,g2,z2⟩:=aj e2
 have k12:=k1.trans k2
 have g12:=k2.bk (by omega) g1
 have bN:∀{h'},Nw h2 h'->ldN h' h.next 0 3=some [.slice Av nv Kv,.slice Aa na Ka,.slice At nt Kt]:=λa=>aG (aa (a.bk (by omega) g12) rfl) (aa (a.bk (by omega) g12) rfl) (aa (a.bk (by omega) g12) rfl)
 have bP:∀{h'},Nw h2 h'->ldN h' h1.next 0 1=some [.slice Ap np Kp]:=λa=>dL (aa (a.bk (by omega) g2) rfl)
 refine⟨_,_,_,_,_,_,_,_,_,bN (Nw.refl _),_,_,_,_,_,_,_,_,_,bN (Nw.refl _),_,_,_,bP (Nw.refl _),zS (Z.nw k12) hf ok λg h3 Fa Ft F' X3 lo k3=>⟨_,rfl,bP k3,Dd (hs.ok5 (by omega)),bN k3,ww (Z.vs.ok5 hnv) (Z.xa.ok5 hna) (Z.ts.ok5 hnt),?_⟩⟩
 have k13:=k12.trans k3
 refine BE (Z.nw k13) hf ok (hs.nw k13) hp λo h4 O k4=>⟨_,rfl,(λh=>by cases h),λ_=>⟨g,0,rfl,(λh=>by cases h),λ_=>⟨o,0,rfl,?_⟩⟩⟩
 have z4:=(k13.trans k4).next
 have z12:=k12.next
 have z13:=k13.next
 have X3':=X3.lt
 have z34:=k4.next
 refine EI (X3'.gr.nw k4) hf.2.1 O hsz λC costs h5 b5 c1 c2 hco hnn k5=>⟨_,_,_,rfl,hK g o C costs h5 ⟨⟨_,_,_,(X3'.nw k4).nw k5,λz hz=>?_,λz=>h3.next<=z,O.nw k5,λz hz=>⟨by omega,λh=>by have:=h.2;omega,λh=>by have:=h.2;omega⟩,λh=>by have:=h.2;omega,λh=>by have:=h.2;omega⟩,b5,⟨by omega,c2⟩,hco,hnn⟩ ((k13.trans k4).trans k5)⟩
 have:=lo z (hz.elim (λh=>.inl h.1) λh=>.inr (h.elim (λh=>.inl h.1) λh=>.inr h.1))
 omega
end
end Eva
end
section
open Go Go.RowKit
namespace Eva
def Rc.chg:Rc Chg where
 size:=5
 rel:=λ_ _ cs x=>cs = [.int .i64 x.1,.int .i64 x.2.1,.int .i64 x.2.2.1,.int .i64 x.2.2.2.1,.int .i64 x.2.2.2.2]
 len:=λh=>by rw[h];rfl
 flat:=λh u hu=>by rw[h]at hu;simp at hu;rcases hu with rfl | rfl | rfl | rfl | rfl <;>rfl
 keep:=λ_ _ h=>h
 mono:=λ_ h=>h
abbrev dt:Rc Chg:=Rc.chg
theorem zU:nQ dt:=λh=>h
def du (x:Chg):List Value:=[.int .i64 x.1,.int .i64 x.2.1,.int .i64 x.2.2.1,.int .i64 x.2.2.2.1,.int .i64 x.2.2.2.2]
def oo (x:Chg):Value:=.agg #[.int .i64 x.1,.int .i64 x.2.1,.int .i64 x.2.2.1,.int .i64 x.2.2.2.1,.int .i64 x.2.2.2.2]
theorem tF (x:Chg):∀v∈du x,flat v=true:=by simp[du,flat]
section
variable {h h':AH}{F Fa:Nat->Prop}{Q:Value->AH->Prop}{A:Option Addr}{n K g:Nat}{N:ab}{xs:List Chg}{ts:List Tab}
theorem Sz.chg (hs:Sz dt F h A n K xs){k:Nat}(hk:k<n):∃b o x,A=some ⟨b,o,none⟩/\F b/\b<h.next/\xs[k]? = some x/\(∀j u,(du x)[j]? = some u->ldC h b (o+k*5+j)=some u)/\ldN h b (o+k*5) 5=some (du x):=by
 obtain⟨b,o,x,cs,hA,hF,hb,hx,hc,hr⟩:=hs.get hk
 have hr':cs=du x:=hr
 subst hr'
 have hc':∀j u,(du x)[j]? = some u->ldC h b (o+k*5+j)=some u:=λj u hj=>by
  have:=hc j u hj
  simpa[Rc.chg,Nat.add_assoc]using this
 exact⟨b,o,x,hA,hF,hb,hx,hc',jt rfl (by decide) hc'⟩
theorem zV (c:Int) (hK:Q (.bool (aL c)) h):WC Tryz.prog 220 [.int .i64 c] h Q:=by
 by_cases hc:aL c=true
 ·exact ij hc (by rwa [hc]at hK)
 ·have hf:aL c=false:=by simpa using hc
  rw[hf]at hK
  unfold aL at hc
  have hc':¬((0<=c/\c<=2147483648)\/c=1152921504606846976):=by simpa using hc
  exact iR ⟨λh1=>absurd h1 (by omega),λh1=>⟨λh2=>⟨λh3=>absurd h3 (by omega),λh3=>hK⟩,λh2=>hK⟩⟩
theorem BF (x:Chg) (hs:Sa Rc.table F h A n K N.ts) (hK:∀h',Nw h h'->Q (.bool (decide (N.isTurn x))) h') :
  WC Tryz.prog 282 [.slice A n K,oo x] h Q:=by
 obtain⟨kd,at_,ci,co,w⟩:=x
 have hln:=hs.len
 refine nu λh1 e1=>?_
 obtain⟨k1,g1,z1⟩:=aj e1
 have no:∀{h'},Nw h h'->¬N.isTurn (kd,at_,ci,co,w)->Q (.bool false) h':=λa hn=>by have:=hK _ a;rwa [decide_eq_false hn]at this
 refine⟨_,aa g1 rfl,λ(hb:at_<0)=>no k1 λ⟨q,_⟩=>by simp only at q;omega,λ(hb:¬at_<0)=>⟨_,aa g1 rfl,λ(hb2:(n:Int)<=at_)=>no k1 λ⟨q,_⟩=>by simp only at q;omega,λ(hb2:¬(n:Int)<=at_)=>⟨_,aa g1 rfl,?_⟩⟩⟩
 obtain⟨i,rfl⟩:∃i:Nat,at_=i:=⟨at_.toNat,by omega⟩
 have hi:i<n:=by omega
 obtain⟨b,o,u,v,A',n',K',zs,hA,hF,hlt,hx,l0,l1,l2,hs'⟩:=hs.table hi
 have ht:N.tb ((i:Int)).toNat=(u,v,zs):=by simp[ab.tb,hx]
 have iff:N.isTurn (kd,(i:Int),ci,co,w)↔(0<=ci/\ci<u)/\(0<=co/\co<v):=by
  unfold ab.isTurn
  simp only[ht]
  constructor
  ·rintro⟨_,q⟩;exact q
  ·intro q;exact⟨by omega,q⟩
 refine⟨i,rfl,b,o,hA,hi,u,v,A',n',K',uN ((k1.ldC hlt _).trans l0) ((k1.ldC hlt _).trans l1) ((k1.ldC hlt _).trans l2),λh2 e2=>?_⟩
 obtain⟨h3,s3,k3,g3,z3⟩:=ay (vs:=[.int .i64 u,.int .i64 v,.slice A' n' K']) e2 rfl (ez rfl rfl rfl)
 have k13:=k1.trans k3
 have g13:=k3.bk (by omega) g1
 refine⟨h3,s3,_,aa g13 rfl,λc1=>⟨_,aa g13 rfl,_,aa g3 rfl,λc2=>⟨_,aa g13 rfl,λc3=>⟨_,aa g13 rfl,_,aa g3 rfl,λc4=>?_,λc4=>?_⟩,λc3=>?_⟩,λc2=>?_⟩,λc1=>?_⟩
 ·have:=hK _ k13;rwa [decide_eq_true (iff.2 ⟨⟨c1,c2⟩,c3,c4⟩)]at this
 ·exact no k13 λq=>c4 (iff.1 q).2.2
 ·exact no k13 λq=>c3 (iff.1 q).2.1
 ·exact no k13 λq=>c2 (iff.1 q).1.2
 ·exact no k13 λq=>c1 (iff.1 q).1.1
theorem BG (G:GrA h Fa F g N){F2:Nat->Prop}(x:Chg) (hs:Sa Rc.table F2 h A n K N.ts) (hK:∀h',Nw h h'->Q (.int .i64 (N.wrong x)) h') :
  WC Tryz.prog 217 [.pointer (some ⟨g,0,none⟩),.slice A n K,oo x] h Q:=by
 obtain⟨kd,at_,ci,co,w⟩:=x
 refine nq λh1 e1=>?_
 obtain⟨k1,g1,z1⟩:=aj e1
 have hlt1:h.next<h1.next:=by omega
 have q:∀{h'}{v:Int},Nw h1 h'->N.wrong (kd,at_,ci,co,w)=v->Q (.int .i64 v) h':=λa hv=>by have:=hK _ (k1.trans a);rwa [hv]at this
 have b:∀{h'},Nw h1 h'->Bk h' h.next (du (kd,at_,ci,co,w)) 185:=λa=>a.bk hlt1 g1
 have wt:∀{h'},Nw h1 h'->(N.wrong (kd,at_,ci,co,w)=if aL w=true then 0 else 8)->LI h' h.next 4 λx20=>CB 220 [.int .i64 x20] h' λb2 h4=>BS b2 (Q (.int .i64 0) h4) (Q (.int .i64 8) h4):=fun {h'} a hw=>
  ⟨w,aa (b a) rfl,zV w ⟨_,rfl,λhb=>q a (by rw[hw,if_pos hb]),λhb=>q a (by rw[hw,if_neg (by simp[hb])])⟩⟩
 have tl:∀{h'},Nw h1 h'->(kd=2->(¬N.isTurn (kd,at_,ci,co,w)->N.wrong (kd,at_,ci,co,w)=5)/\(N.isTurn (kd,at_,ci,co,w)->N.wrong (kd,at_,ci,co,w)=if aL w=true then 0 else 8))->(kd≠2->N.wrong (kd,at_,ci,co,w)=if aL w=true then 0 else 8)->
   LI h' h.next 0 λx14=>TS (x14=2) (∃x15 x16 x17 x18 x19,ldN h' h.next 0 5=some [.int .i64 x15,.int .i64 x16,.int .i64 x17,.int .i64 x18,.int .i64 x19]/\CB 282 [.slice A n K,.agg #[.int .i64 x15,.int .i64 x16,.int .i64 x17,.int .i64 x18,.int .i64 x19]] h' λb1 h3=>BS b1 (LI h3 h.next 4 λx20=>CB 220 [.int .i64 x20] h3 λb2 h4=>BS b2 (Q (.int .i64 0) h4) (Q (.int .i64 8) h4)) (Q (.int .i64 5) h3)) (LI h' h.next 4 λx21=>CB 220 [.int .i64 x21] h' λb3 h5=>BS b3 (Q (.int .i64 0) h5) (Q (.int .i64 8) h5)):=fun {h'} a h2 hn2=>
  ⟨kd,aa (b a) rfl,λc=>⟨kd,at_,ci,co,w,bY (o:=0) (n:=5) (b a) (by simp[du]),BF (kd,at_,ci,co,w) (hs.nw (k1.trans a)) λh3 k3=>⟨_,rfl,λht=>wt (a.trans k3) ((h2 c).2 (of_decide_eq_true ht)),λht=>q (a.trans k3) ((h2 c).1 (of_decide_eq_false ht))⟩⟩,λc=>wt a (hn2 c)⟩
 have bs:¬(kd=1/\(ci≠0\/co≠0))->(kd=1\/kd=2)->LI h1 h.next 0 λx10=>TS (x10=1)
     (LI h1 h.next 1 λx11=>TS (x11<0) (Q (.int .i64 5) h1)
      (LI h1 h.next 1 λx12=>CI 52 [.pointer (some ⟨g,0,none⟩)] h1 λx13 h2=>ldC h2 h.next 1=some (.int .i64 x12)/\TS (x13<=x12) (Q (.int .i64 5) h2)
       (LI h2 h.next 0 λx14=>TS (x14=2) (∃x15 x16 x17 x18 x19,ldN h2 h.next 0 5=some [.int .i64 x15,.int .i64 x16,.int .i64 x17,.int .i64 x18,.int .i64 x19]/\CB 282 [.slice A n K,.agg #[.int .i64 x15,.int .i64 x16,.int .i64 x17,.int .i64 x18,.int .i64 x19]] h2 λb1 h3=>BS b1 (LI h3 h.next 4 λx20=>CB 220 [.int .i64 x20] h3 λb2 h4=>BS b2 (Q (.int .i64 0) h4) (Q (.int .i64 8) h4)) (Q (.int .i64 5) h3)) (LI h2 h.next 4 λx21=>CB 220 [.int .i64 x21] h2 λb3 h5=>BS b3 (Q (.int .i64 0) h5) (Q (.int .i64 8) h5)))))
     (LI h1 h.next 0 λx14=>TS (x14=2) (∃x15 x16 x17 x18 x19,ldN h1 h.next 0 5=some [.int .i64 x15,.int .i64 x16,.int .i64 x17,.int .i64 x18,.int .i64 x19]/\CB 282 [.slice A n K,.agg #[.int .i64 x15,.int .i64 x16,.int .i64 x17,.int .i64 x18,.int .i64 x19]] h1 λb1 h3=>BS b1 (LI h3 h.next 4 λx20=>CB 220 [.int .i64 x20] h3 λb2 h4=>BS b2 (Q (.int .i64 0) h4) (Q (.int .i64 8) h4)) (Q (.int .i64 5) h3)) (LI h1 h.next 4 λx21=>CB 220 [.int .i64 x21] h1 λb3 h5=>BS b3 (Q (.int .i64 0) h5) (Q (.int .i64 8) h5))):=λhz hk=>by
  refine⟨kd,aa g1 rfl,λc=>⟨at_,aa g1 rfl,λc2=>q (Nw.refl _) ?_,λc2=>⟨at_,aa g1 rfl,pW (G.nw k1) ⟨_,rfl,aa g1 rfl,λc3=>q (Nw.refl _) ?_,λc3=>tl (Nw.refl _) (λh2=>absurd h2 (by omega)) λ_=>?_⟩⟩⟩,λc=>tl (Nw.refl _) (λh2=>⟨λht=>?_,λht=>?_⟩) λh2=>absurd hk (by omega)⟩
  ·subst c;simp at hz;simp[ab.wrong,hz,c2]
  ·subst c;simp at hz;simp[ab.wrong,hz,c3]
  ·unfold ab.wrong;dsimp only;rw[if_neg (by omega),if_neg hz,if_neg (by omega),if_neg (by rintro⟨h,-⟩;omega)]
  ·subst h2;simp[ab.wrong,ht]
  ·subst h2;simp[ab.wrong,ht]
 have one:∀v,N.wrong (kd,at_,ci,co,w)=v->v=1->Q (.int .i64 1) h1:=λv hv e=>q (Nw.refl _) (by rw[hv,e])
 refine⟨kd,aa g1 rfl,λc=>⟨kd,aa g1 rfl,λ_=>⟨ci,aa g1 rfl,λc2=>⟨co,aa g1 rfl,λc3=>bs (λhh=>by omega) (.inl c),λc3=>q (Nw.refl _) (by simp[ab.wrong,c,c2,c3])⟩,λc2=>q (Nw.refl _) (by simp[ab.wrong,c,c2])⟩,λc1=>absurd c c1⟩,
  λc=>⟨kd,aa g1 rfl,λc2=>⟨kd,aa g1 rfl,λc1=>absurd c1 c,λ_=>bs (λhh=>c hh.1) (.inr c2)⟩,λc2=>q (Nw.refl _) (by simp[ab.wrong,c,c2])⟩⟩
end
end Eva
end
section
open Go
namespace Eva
structure Cm (P:Program) (kt:TypeId) (f0 f1 f2 f3 f4:Field) (et e6:TypeId):Prop where
 u:P.underlying kt=some (.struct #[f0,f1,f2,f3,f4])
 st:P.stoodInHeld kt=false
 nm:f0.name≠ "_"/\f1.name≠ "_"/\f2.name≠ "_"/\f3.name≠ "_"/\f4.name≠ "_"
 ty:f0.type=et/\f1.type=et/\f2.type=et/\f3.type=et/\f4.type=e6
 off:f0.offset=0/\f1.offset=1/\f2.offset=2/\f3.offset=3/\f4.offset=4
theorem rA {P:Program}:au P program=some P:=rfl
set_option maxHeartbeats 1000000
theorem BH {P:Program}{kt et e6:TypeId}{f0 f1 f2 f3 f4:Field}{d d6:IntKind}{i i6:TypeInfo}(H:Cm P kt f0 f1 f2 f3 f4 et e6) (he:P.underlying et=some (.int d)) (hi:P.info? et=some i) (he6:P.underlying e6=some (.int d6)) (hi6:P.info? e6=some i6):kh P kt oo where
 pl:=λa=>by rfl
 eq:=λa b=>by
  obtain⟨a1,a2,a3,a4,a5⟩:=a
  obtain⟨b1,b2,b3,b4,b5⟩:=b
  obtain⟨hu,hst,⟨n0,n1,n2,n3,n4⟩,⟨t0,t1,t2,t3,t4⟩,⟨o0,o1,o2,o3,o4⟩⟩:=H
  show au P (Op.equalIn (9999+1) kt (.agg #[.int .i64 a1,.int .i64 a2,.int .i64 a3,.int .i64 a4,.int .i64 a5]) (.agg #[.int .i64 b1,.int .i64 b2,.int .i64 b3,.int .i64 b4,.int .i64 b5]))=_
  unfold Op.equalIn
  rw[av,bZ hu]
  simp only[Option.bind_some]
  rw[av,rA]
  simp only[Option.bind_some,hst,Bool.false_eq_true,if_false]
  have e0:au P (part et #[Value.int .i64 a1,.int .i64 a2,.int .i64 a3,.int .i64 a4,.int .i64 a5] 0)=some (.int .i64 a1):=aB he hi _ _ rfl
  have e1:au P (part et #[Value.int .i64 a1,.int .i64 a2,.int .i64 a3,.int .i64 a4,.int .i64 a5] 1)=some (.int .i64 a2):=aB he hi _ _ rfl
  have e2:au P (part et #[Value.int .i64 a1,.int .i64 a2,.int .i64 a3,.int .i64 a4,.int .i64 a5] 2)=some (.int .i64 a3):=aB he hi _ _ rfl
  have e3:au P (part et #[Value.int .i64 a1,.int .i64 a2,.int .i64 a3,.int .i64 a4,.int .i64 a5] 3)=some (.int .i64 a4):=aB he hi _ _ rfl
  have e4:au P (part e6 #[Value.int .i64 a1,.int .i64 a2,.int .i64 a3,.int .i64 a4,.int .i64 a5] 4)=some (.int .i64 a5):=aB he6 hi6 _ _ rfl
  have g0:au P (part et #[Value.int .i64 b1,.int .i64 b2,.int .i64 b3,.int .i64 b4,.int .i64 b5] 0)=some (.int .i64 b1):=aB he hi _ _ rfl
  have g1:au P (part et #[Value.int .i64 b1,.int .i64 b2,.int .i64 b3,.int .i64 b4,.int .i64 b5] 1)=some (.int .i64 b2):=aB he hi _ _ rfl
  have g2:au P (part et #[Value.int .i64 b1,.int .i64 b2,.int .i64 b3,.int .i64 b4,.int .i64 b5] 2)=some (.int .i64 b3):=aB he hi _ _ rfl
  have g3:au P (part et #[Value.int .i64 b1,.int .i64 b2,.int .i64 b3,.int .i64 b4,.int .i64 b5] 3)=some (.int .i64 b4):=aB he hi _ _ rfl
  have g4:au P (part e6 #[Value.int .i64 b1,.int .i64 b2,.int .i64 b3,.int .i64 b4,.int .i64 b5] 4)=some (.int .i64 b5):=aB he6 hi6 _ _ rfl
  have k:∀x y:Int,au P (Op.equalIn 9999 et (.int .i64 x) (.int .i64 y))=some (x == y):=λx y=>eqI he 9998 x y
  have k6:∀x y:Int,au P (Op.equalIn 9999 e6 (.int .i64 x) (.int .i64 y))=some (x == y):=λx y=>eqI he6 9998 x y
  rw[<-Array.forIn_toList]
  simp only[List.forIn_cons,List.forIn_nil]
  by_cases h1:a1=b1
  case neg=>simp[av,bF,a7,n0,t0,o0,e0,g0,k,h1]
  subst h1
  by_cases h2:a2=b2
  case neg=>simp[av,bF,a7,n0,t0,o0,e0,g0,n1,t1,o1,e1,g1,k,h2]
  subst h2
  by_cases h3:a3=b3
  case neg=>simp[av,bF,a7,n0,t0,o0,e0,g0,n1,t1,o1,e1,g1,n2,t2,o2,e2,g2,k,h3]
  subst h3
  by_cases h4:a4=b4
  case neg=>simp[av,bF,a7,n0,t0,o0,e0,g0,n1,t1,o1,e1,g1,n2,t2,o2,e2,g2,n3,t3,o3,e3,g3,k,h4]
  subst h4
  by_cases h5:a5=b5
  case neg=>simp[av,bF,a7,n0,t0,o0,e0,g0,n1,t1,o1,e1,g1,n2,t2,o2,e2,g2,n3,t3,o3,e3,g3,n4,t4,o4,e4,g4,k,k6,h5]
  subst h5
  simp[av,bF,a7,n0,t0,o0,e0,g0,n1,t1,o1,e1,g1,n2,t2,o2,e2,g2,n3,t3,o3,e3,g3,n4,t4,o4,e4,g4,k,k6]
 chk:=λe a=>by
  obtain⟨hu,hst,⟨n0,n1,n2,n3,n4⟩,⟨t0,t1,t2,t3,t4⟩,⟨o0,o1,o2,o3,o4⟩⟩:=H
  show(match au P (Instr.checkKey e (9999+1) kt (.agg #[.int .i64 a.1,.int .i64 a.2.1,.int .i64 a.2.2.1,.int .i64 a.2.2.2.1,.int .i64 a.2.2.2.2])) with | some _=>true | none=>false)=true
  have e0:au P (part et #[Value.int .i64 a.1,.int .i64 a.2.1,.int .i64 a.2.2.1,.int .i64 a.2.2.2.1,.int .i64 a.2.2.2.2] 0)=some (.int .i64 a.1):=aB he hi _ _ rfl
  have e1:au P (part et #[Value.int .i64 a.1,.int .i64 a.2.1,.int .i64 a.2.2.1,.int .i64 a.2.2.2.1,.int .i64 a.2.2.2.2] 1)=some (.int .i64 a.2.1):=aB he hi _ _ rfl
  have e2:au P (part et #[Value.int .i64 a.1,.int .i64 a.2.1,.int .i64 a.2.2.1,.int .i64 a.2.2.2.1,.int .i64 a.2.2.2.2] 2)=some (.int .i64 a.2.2.1):=aB he hi _ _ rfl
  have e3:au P (part et #[Value.int .i64 a.1,.int .i64 a.2.1,.int .i64 a.2.2.1,.int .i64 a.2.2.2.1,.int .i64 a.2.2.2.2] 3)=some (.int .i64 a.2.2.2.1):=aB he hi _ _ rfl
  have e4:au P (part e6 #[Value.int .i64 a.1,.int .i64 a.2.1,.int .i64 a.2.2.1,.int .i64 a.2.2.2.1,.int .i64 a.2.2.2.2] 4)=some (.int .i64 a.2.2.2.2):=aB he6 hi6 _ _ rfl
  have k:∀x:Int,au P (Instr.checkKey e 9999 et (.int .i64 x))=some ():=λx=>Bz he e 9998 x
  have k6:∀x:Int,au P (Instr.checkKey e 9999 e6 (.int .i64 x))=some ():=λx=>Bz he6 e 9998 x
  unfold Instr.checkKey
  rw[av,bZ hu]
  simp only[Option.bind_some]
  rw[<-Array.forIn_toList]
  simp only[List.forIn_cons,List.forIn_nil]
  simp[av,bF,a7,n0,t0,o0,n1,t1,o1,n2,t2,o2,n3,t3,o3,n4,t4,o4,e0,e1,e2,e3,e4,k,k6]
 bits:=λa=>by
  show Instr.sameBits 10000 (oo a) (oo a)=true
  unfold Instr.sameBits oo
  simp[Instr.sameBits]
def kn (P:Program) (t:TypeId):List Field:=
 match P.underlying t with
 | some (.struct fs)=>fs.toList
 | _=>[]
theorem zW {P:Program}{t:TypeId}{l:List Field}(h:kn P t=l) (hn:l≠[]):P.underlying t=some (.struct l.toArray):=by
 unfold kn at h
 split at h
 ·rename_i fs hu
  rw[hu,<-h]
 ·exact absurd h.symm hn
theorem BI {P:Program}{t et e6:TypeId}(h:(kn P t).map (λf=>(f.name != "_",f.type,f.offset)) = [(true,et,0),(true,et,1),(true,et,2),(true,et,3),(true,e6,4)]) (hst:P.stoodInHeld t=false):∃f0 f1 f2 f3 f4,Cm P t f0 f1 f2 f3 f4 et e6:=by
 obtain⟨l,hl⟩:∃l,kn P t=l:=⟨_,rfl⟩
 rw[hl]at h
 have hlen:l.length=5:=by have:=congrArg List.length h;simpa using this
 obtain⟨f0,f1,f2,f3,f4,rfl⟩:∃f0 f1 f2 f3 f4,l = [f0,f1,f2,f3,f4]:=by
  rcases l with _ | ⟨f0,_ | ⟨f1,_ | ⟨f2,_ | ⟨f3,_ | ⟨f4,_ | ⟨f5,l⟩⟩⟩⟩⟩⟩ <;>first | (simp at hlen;done) | exact⟨_,_,_,_,_,rfl⟩
 simp only[List.map_cons,List.map_nil,List.cons.injEq,Prod.mk.injEq,bne_iff_ne,ne_eq,and_true]at h
 obtain⟨⟨n0,t0,o0⟩,⟨n1,t1,o1⟩,⟨n2,t2,o2⟩,⟨n3,t3,o3⟩,n4,t4,o4⟩:=h
 exact⟨f0,f1,f2,f3,f4,zW hl (by simp),hst,⟨n0,n1,n2,n3,n4⟩,⟨t0,t1,t2,t3,t4⟩,o0,o1,o2,o3,o4⟩
theorem Ef:kh Tryz.prog 185 oo:=by
 obtain⟨f0,f1,f2,f3,f4,H⟩:=BI (P:=Tryz.prog) (t:=185) (et:=3) (e6:=2) (by kernel_rfl) (by kernel_rfl)
 obtain⟨i,hi,-⟩:=bi dK
 obtain⟨i6,hi6,-⟩:=zN
 exact BH (d:=.i64) (d6:=.i64) H Tryz.underlying3 hi Tryz.underlying2 hi6
end Eva
end
section
open Go Go.RowKit
def cB (x:Chg):Chg:=(x.1,x.2.1,x.2.2.1,x.2.2.2.1,0)
structure bu (N:ab) (l:List Chg):Prop where
 len:l.length<=256
 ok:∀x∈l,dJ N x
 one:∀(j i:Nat) (x y:Chg),j<i->l[j]? = some x->l[i]? = some y->cB x≠cB y
namespace Eva
section
variable {h h':AH}{F Fa:Nat->Prop}{Q:Value->AH->Prop}{A:Option Addr}{n K g:Nat}{N:ab}{xs:List Chg}
theorem Eg (G:GrA h Fa F g N) (hK:∀A1 n1 K1 A2 n2 K2 A3 n3 K3 h',Sa aJ (λz=>h.next<=z) h' A1 n1 K1 N.vs->Sa aJ (λz=>h.next<=z) h' A2 n2 K2 N.xa->Sa dM (λz=>h.next<=z) h' A3 n3 K3 N.ts->Nw h h'->Q (.agg #[.slice A1 n1 K1,.slice A2 n2 K2,.slice A3 n3 K3]) h') :
  WC Tryz.prog 145 [.pointer (some ⟨g,0,none⟩)] h Q:=by
 refine jU λh1 e1=>?_
 obtain⟨k1,g1,z1⟩:=aj e1
 obtain⟨⟨hg1,hg2⟩,⟨a1,a2,a3,a4,a5⟩,⟨b1,b2,b3,b4,b5⟩,⟨c1,c2,c3,c4,c5⟩,-,-,-,ok,fw⟩:=G
 refine⟨g,0,rfl,_,_,_,_,_,_,_,_,_,aG ((k1.ldC hg2 _).trans a4) ((k1.ldC hg2 _).trans b4) ((k1.ldC hg2 _).trans c4),?_⟩
 refine wd (a5.nw k1) (b5.nw k1) (c5.nw k1) ok λD3 A1 K1 A2 K2 A3 K3 h2 s1 s2 s3 lo lo3 k2=>⟨_,_,_,_,_,_,_,_,_,rfl,?_⟩
 obtain⟨h3,t3,g3,z3,o3⟩:=bI (vs:=[.slice A1 a2 K1,.slice A2 b2 K2,.slice A3 c2 K3]) (k2.bk (by omega) g1) rfl (ez rfl rfl rfl)
 have m3:Mt (λz=>z=h.next) h2 h3:=⟨by omega,λz _ hn=>o3 z hn⟩
 have z2:=k2.next
 refine⟨h3,t3,_,_,_,_,_,_,_,_,_,aG (aa g3 rfl) (aa g3 rfl) (aa g3 rfl),hK _ _ _ _ _ _ _ _ _ h3 ((s1.off m3 λz hz e=>by have:=hz.1;omega).mono λz hz _=>by have:=hz.1;omega) ((s2.sa.off m3 λz hz e=>by have:=(lo z hz).1;omega).mono λz hz _=>by have:=(lo z hz).1;omega) ((s3.sa.off m3 λz hz e=>by have:=lo3 z hz;omega).mono λz hz _=>by have:=lo3 z hz;omega) (m3.is_nw (k1.trans k2) λz hz=>by omega)⟩
def iV (j:Nat):Value:=.int .i64 (j:Int)
theorem wx (G:GrA h Fa F g N){Fl:Nat->Prop}(hs:Sz dt Fl h A n K xs) (hK1:bu N xs->∀h',Nw h h'->Q .nilIface h') (hK2:¬bu N xs->∀t u h',Nw h h'->Q (.iface t u) h') :
  WC Tryz.prog 144 [.pointer (some ⟨g,0,none⟩),.slice A n K] h Q:=by
 have hl:=hs.len
 refine oQ ⟨λhbig h1 e1=>hK2 (λB=>by have:=B.len;omega) _ _ _ (aj e1).1,λhle=>⟨λh0=>?_,λhn0=>?_⟩⟩
 ·obtain rfl:xs = []:=by
   apply List.eq_nil_of_length_eq_zero
   omega
  exact hK1 ⟨by simp,by simp,λj i x y _ hx=>by simp at hx⟩ h (Nw.refl _)
 refine Eg G λA1 n1 K1 A2 n2 K2 A3 n3 K3 h2 s1 s2 s3 k2=>⟨_,_,_,_,_,_,_,_,_,rfl,λh3 e3=>?_⟩
 obtain⟨k3,g3,z3⟩:=aj e3
 have k13:=k2.trans k3
 refine⟨λm x h4=>∃(i:Nat) (f:Chg->Option Nat),x=i/\i<=n/\m=n - i/\dN oo h4 h2.next (λy=>(f y).map iV)/\(∀y,(f y).isSome=true↔∃j x,j<i/\xs[j]? = some x/\cB x=y)/\(∀j x,j<i->xs[j]? = some x->dJ N x)/\(∀j i' x y,j<i'->i' < i->xs[j]? = some x->xs[i']? = some y->cB x≠cB y)/\Mt (λz=>z=h2.next) h3 h4,n,
  ⟨0,λ_=>none,rfl,Nat.zero_le _,rfl,dN.new g3,λy=>⟨λh=>(by cases h),λ⟨j,x,hj,_⟩=>absurd hj (by omega)⟩,λj x hj=>absurd hj (by omega),λj i' x y _ hj=>absurd hj (by omega),Mt.refl _ _⟩,?_⟩
 rintro m x h4 ⟨i,f,rfl,hi,rfl,M4,hf,hok,hone,m4⟩
 have z4:=m4.next
 have k14:Nw h h4:=m4.is_nw k13 λz hz=>by have:=k2.next;omega
 refine⟨λhlt=>?_,λhge=>?_⟩
 ·obtain⟨b',o',x,hA',-,hlb,hx,hc,hn5⟩:=(hs.nw k14).chg (k:=i) (by omega)
  refine⟨i,rfl,b',o',hA',by omega,_,_,_,_,_,hn5,λh5 e5=>?_⟩
  obtain⟨h6,s6,k6,g6,z6⟩:=ay (vs:=du x) e5 rfl (tF x)
  have t6:Sa dM (λz=>h.next<=z/\z<h2.next) h6 A3 n3 K3 N.ts:=(((s3.mono λz hz hl=>(⟨hz,hl⟩:h.next<=z/\z<h2.next)).nw k3).off m4 λz hz e=>by omega).nw k6
  refine⟨h6,s6,_,_,_,_,_,bY (o:=0) (n:=5) g6 (by simp[du]),BG (G.nw (k14.trans k6)) x t6 λh7 k7=>⟨_,rfl,_,_,_,_,_,bY (o:=0) (n:=5) (k7.bk (by omega) g6) (by simp[du]),λh8 e8=>?_⟩⟩
  obtain⟨h9,s9,k9,g9,z9⟩:=ay (vs:=du x) e8 rfl (tF x)
  obtain⟨h10,s10,g10,z10,o10⟩:=aA (v:=.int .i64 0) (o:=4) g9 (by simp[du]) rfl
  have g10':Bk h10 h7.next (du (cB x)) 185:=g10
  have z7:=k7.next
  have m10:Mt (λz=>z=h7.next) h9 h10:=⟨by omega,λz _ hn=>o10 z hn⟩
  have m410:Mt (λz=>z=h7.next) h4 h10:=((((Mt.of k6).nw k7).nw k9).then m10)
  have k410:Nw h4 h10:=m410.is_nw (Nw.refl _) λz hz=>by omega
  have M10:dN oo h10 h2.next (λy=>(f y).map iV):=M4.keep (m410.get _ (by omega) (by omega))
  have bad:¬bu N xs->∀t u h',Nw h10 h'->Q (.iface t u) h':=λhb t u h' a=>hK2 hb t u h' ((k14.trans k410).trans a)
  have n10:ldN h10 h7.next 0 5=some (du (cB x)):=bY (o:=0) (n:=5) g10' (by simp[du])
  have put:dJ N x->(∀j y,j<i->xs[j]? = some y->cB y≠cB x)->∃h11:AH,fT Tryz.prog h10 (some (.map 185 3)) (.map (some h2.next)) (oo (cB x)) (.int .i64 (i:Int))=some (undef,h11)/\WR ((i:Int)+1) λx29=>RE (n - i) λm'=>∃(i:Nat) (f:Chg->Option Nat),x29=i/\i<=n/\m' = n - i/\dN oo h11 h2.next (λy=>(f y).map iV)/\(∀y,(f y).isSome=true↔∃j x,j<i/\xs[j]? = some x/\cB x=y)/\(∀j x,j<i->xs[j]? = some x->dJ N x)/\(∀j i' x y,j<i'->i' < i->xs[j]? = some x->xs[i']? = some y->cB x≠cB y)/\Mt (λz=>z=h2.next) h3 h11:=λhx1 hx2=>by
   obtain⟨h11,y1,y2,y3,y4⟩:=M10.put (e:=3) Ef (cB x) (iV i)
   refine⟨h11,y1,_,wrS (by omega),n - (i+1),by omega,i+1,λy=>if y=cB x then some i else f y,rfl,by omega,rfl,?_,λy=>?_,λj y hj hy=>?_,λj i' y y' h1 h2 h3 h4=>?_,m4.trans (⟨by omega,λz hz hn=>(y4 z hn).trans (m410.get z hz (by omega))⟩:Mt (λz=>z=h2.next) h4 h11) λz hz _=>hz⟩
   ·have e:(λy=>if y=cB x then some (iV i) else(f y).map iV)=λy=>(if y=cB x then some i else f y).map iV:=by
     funext y
     by_cases h:y=cB x
     ·simp[h]
     ·simp[h]
    rw[<-e]
    exact y2
   ·by_cases h:y=cB x
    ·subst h
     simp only[if_pos rfl]
     exact⟨λ_=>⟨i,x,by omega,hx,rfl⟩,λ_=>rfl⟩
    ·simp only[if_neg h]
     rw[hf y]
     constructor
     ·rintro⟨j,x',h1,h2,h3⟩;exact⟨j,x',by omega,h2,h3⟩
     ·rintro⟨j,x',h1,h2,h3⟩
      by_cases e:j=i
      ·subst e
       rw[hx]at h2
       obtain rfl:=Option.some.inj h2
       exact absurd h3.symm h
      ·exact⟨j,x',by omega,h2,h3⟩
   ·by_cases e:j=i
    ·subst e
     rw[hx]at hy
     obtain rfl:=Option.some.inj hy
     exact hx1
    ·exact hok j y (by omega) hy
   ·by_cases e:i' = i
    ·subst e
     rw[hx]at h4
     obtain rfl:=Option.some.inj h4
     exact hx2 j y (by omega) h3
    ·exact hone j i' y y' h1 (by omega) h3 h4
  refine⟨h9,s9,h10,s10,λhw0=>?_,λhw0=>⟨λh=>absurd h hw0,λ_ h12 e12=>bad (λB=>hw0 (ab.wrong_ok.2 (B.ok x (List.mem_of_getElem? hx)))) _ _ _ (aj e12).1⟩⟩
  have hx1:=ab.wrong_ok.1 hw0
  obtain⟨iz,hiz,hz0⟩:=wm
  have hlook:=M10.look (e:=3) Ef hiz hz0 (by rfl) (cB x) true
  refine⟨_,_,_,_,_,n10,((f (cB x)).map Int.ofNat).getD 0,(f (cB x)).isSome,?_,λhb=>?_,λhb=>⟨λ_=>?_,λh=>absurd hw0 h⟩⟩
  ·refine hlook.trans ?_
   cases f (cB x) <;>rfl
  ·refine⟨λh=>absurd h (by decide),λ_ h12 e12=>bad (λB=>?_) _ _ _ (aj e12).1⟩
   obtain⟨j,y,h1,h2,h3⟩:=(hf _).1 hb
   exact B.one j i y x h1 h2 hx h3
  ·refine⟨_,_,_,_,_,n10,put hx1 λj y hj hy he=>?_⟩
   rw[(hf _).2 ⟨j,y,hj,hy,he⟩]at hb
   cases hb
 ·obtain rfl:i=n:=by omega
  refine hK1 ⟨by omega,λx hx=>?_,λj i' x y h1 h2 h3=>hone j i' x y h1 (by have:=(List.getElem?_eq_some_iff.1 h3).1;omega) h2 h3⟩ h4 k14
  obtain⟨j,hj⟩:=List.getElem?_of_mem hx
  exact hok j x (by have:=(List.getElem?_eq_some_iff.1 hj).1;omega) hj
end
end Eva
end
section
open Go Go.RowKit
namespace Eva
theorem De {cells:List Value}{f:Nat->List Value}{s:Nat}(hs:0<s) (hf:∀k,(f k).length=s){n:Nat}(hl:cells.length=n*s) (h:∀k,k<n->(cells.drop (k*s)).take s=f k):cells=cq f n:=by
 apply List.ext_getElem?
 intro i
 by_cases hi:i<n*s
 ·have hd:i / s<n:=(Nat.div_lt_iff_lt_mul hs).2 hi
  have hm:i % s<s:=Nat.mod_lt _ hs
  have he:i=i / s*s+i % s:=by have:=Nat.div_add_mod i s;rw[Nat.mul_comm]at this;omega
  have h1:=h _ hd
  have h2:=tp hf hd hm
  rw[he,h2,<-h1,List.getElem?_take,if_pos hm,List.getElem?_drop]
 ·rw[List.getElem?_eq_none (by omega),List.getElem?_eq_none (by rw[da hf];omega)]
section
variable {α:Type}{r:Rc α}{h h':AH}{D:Nat->Prop}{e:TypeId}{A:Option Addr}{n K:Nat}{xs:List α}
theorem al.elems (o:al r h D e A n K xs) (hn:0<n) (hr:0<r.size):∃g f,A=some ⟨g,0,none⟩/\D g/\g<h.next/\Bk h g (cq f n) e/\(∀k,(f k).length=r.size)/\(K=cl n\/K=2*n)/\(∀k,k<n->∀u∈f k,flat u=true)/\∀k x,xs[k]? = some x->r.rel (λb=>D b/\b≠g) h (f k) x:=by
 obtain⟨hl,o⟩:=o
 rcases o with⟨_,h1,_⟩ | ⟨g,cells,rfl,h1,h2,h3,h4,h5,h6,h7⟩
 ·omega
 ·have hcut:∀k,k<n->((cells.drop (k*r.size)).take r.size).length=r.size:=λk hk=>by
   have:(k+1)*r.size<=n*r.size:=Nat.mul_le_mul_right _ hk
   rw[Nat.succ_mul]at this
   simp;omega
  have hf:∀k,(if k<n then(cells.drop (k*r.size)).take r.size else List.replicate r.size undef).length=r.size:=λk=>by
   split
   ·exact hcut k (by assumption)
   ·simp
  refine⟨g,λk=>if k<n then(cells.drop (k*r.size)).take r.size else List.replicate r.size undef,rfl,h1,h2,?_,hf,h5,λk hk u hu=>?_,λk x hx=>?_⟩
  ·have:cells=cq (λk=>if k<n then(cells.drop (k*r.size)).take r.size else List.replicate r.size undef) n:=De hr hf h4 λk hk=>by simp only[if_pos hk]
   rw[<-this];exact h3
  ·simp only[if_pos hk]at hu
   exact h6 u (List.mem_of_mem_drop (List.mem_of_mem_take hu))
  ·have hk:k<n:=by rw[<-hl];exact(List.getElem?_eq_some_iff.1 hx).1
   simp only[if_pos hk]
   exact h7 k x hx
theorem al.of_elems {g:Nat}{f:Nat->List Value}(hl:xs.length=n) (h1:D g) (h2:g<h.next) (h3:Bk h g (cq f n) e) (hf:∀k,(f k).length=r.size) (h5:K=cl n\/K=2*n) (h7:∀k x,xs[k]? = some x->r.rel (λb=>D b/\b≠g) h (f k) x):al r h D e (some ⟨g,0,none⟩) n K xs:=by
 refine⟨hl,.inr ⟨g,_,rfl,h1,h2,h3,da hf n,h5,λu hu=>?_,λk x hx=>?_⟩⟩
 ·obtain⟨k,hk,hu⟩:=List.mem_flatMap.1 hu
  have hk':k<n:=by simpa using hk
  have hx:xs[k]? = some (xs[k]'(by omega)):=List.getElem?_eq_getElem _
  exact r.flat (h7 k _ hx) u hu
 ·rw[ii hf n (by rw[<-hl];exact(List.getElem?_eq_some_iff.1 hx).1)]
  exact h7 k x hx
end
theorem al.ints {h:AH}{D:Nat->Prop}{e:TypeId}{A:Option Addr}{n K:Nat}{xs:List Int}(o:al cI h D e A n K xs) (hn:0<n):∃g,A=some ⟨g,0,none⟩/\D g/\g<h.next/\Bk h g (xs.map (Value.int .i64)) e:=by
 obtain⟨hl,o⟩:=o
 rcases o with⟨_,h1,_⟩ | ⟨g,cells,rfl,h1,h2,h3,h4,h5,h6,h7⟩
 ·omega
 ·refine⟨g,rfl,h1,h2,?_⟩
  have h4':cells.length=n:=by rw[h4];exact Nat.mul_one n
  have:cells=xs.map (Value.int .i64):=by
   apply List.ext_getElem?
   intro i
   rw[List.getElem?_map]
   by_cases hi:i<n
   ·have hx:xs[i]? = some (xs[i]'(by omega)):=List.getElem?_eq_getElem _
    have hr:(cells.drop (i*1)).take 1 = [Value.int .i64 (xs[i]'(by omega))]:=h7 i _ hx
    have hc:cells[i]? = some (cells[i]'(by omega)):=List.getElem?_eq_getElem _
    rw[Nat.mul_one,cR hc]at hr
    rw[hc,hx]
    simpa using hr
   ·rw[List.getElem?_eq_none (by omega),List.getElem?_eq_none (by omega)];rfl
  rw[<-this];exact h3
section
variable {h h':AH}{F Fa Ft:Nat->Prop}{Q:Value->AH->Prop}{A:Option Addr}{n K g:Nat}{N:ab}
theorem Shp.endsL {M:ab}(S:Shp N M) (q:Bool):M.endsL q=N.endsL q:=by unfold ab.endsL;rw[S.nv,S.ends,S.na]
theorem Shp.plL {M:ab}(S:Shp N M):M.plL=N.plL:=by
 unfold ab.plL
 rw[S.na]
 congr 1
 funext a
 rw[S.inPl,S.outPl]
structure iL (h h':AH) (Fa Ft F:Nat->Prop) (g:Nat) (M:ab):Prop where
 gr:∃Fa' Ft' F',GrX h' Fa' Ft' F' g M/\(∀z,Fa' z\/Ft' z->Fa z\/Ft z\/h.next<=z)/\∀z,F' z->F z
 mt:Mt (λz=>Fa z\/Ft z) h h'
theorem EJ (X:GrX h Fa Ft F g N){a:Nat}(ha:a<N.na){w:Int}(hw:aL w=true) (hK:∀h',iL h h' Fa Ft F g (N.setW a w)->Q .nilIface h') :
  WC Tryz.prog 150 [.pointer (some ⟨g,0,none⟩),.int .i64 a,.int .i64 w] h Q:=by
 have hfr:=(ab.fr_lt X.ok ha).2
 have hto:=(ab.to_lt X.ok ha).2
 have S:=ab.setW_shp (N:=N) a w
 have hok:=ab.setW_ok X.ok (a:=a) hw
 refine jT (pU X.gr ha ⟨_,rfl,λ_=>ij hw ⟨_,rfl,λ_=>?_,λh=>Bool.noConfusion h⟩,λh=>Bool.noConfusion h⟩)
 obtain⟨o,⟨a1,a2,a3,a4,a5⟩,⟨b1,b2,b3,b4,b5⟩,⟨c1,c2,c3,c4,c5⟩,⟨d1,d2,d3,d4,d5⟩,⟨e1,e2,e3,e4,e5⟩,⟨f1,f2,f3,f4,f5⟩,ok,fw,dj⟩:=X
 have hb2:N.na=b2:=b5.len
 obtain⟨gA,f,rfl,hD,hlt,hB,hf,hK2,hfl,hrel⟩:=b5.elems (by omega) (by decide)
 have hNg:gA≠g:=λe=>((dj gA).1 hD).2 (e ▸ o.1)
 obtain⟨h2,s2,B2,z2,o2⟩:=rr hB hf (k:=a) (by omega) (j:=2) (by decide) (x:=.int .i64 w) rfl
 have m2:Mt (λz=>z=gA) h h2:=⟨by omega,λz _ hn=>o2 z hn⟩
 refine⟨g,0,rfl,_,_,_,b4,a,rfl,gA,0,rfl,by omega,h2,s2,hK h2 ⟨⟨Fa,Ft,F,?_,λz hz=>hz.elim .inl λh=>.inr (.inl h),λz hz=>hz⟩,m2.mono λz hz _=>.inl (hz ▸ hD)⟩⟩
 have hg:∀j,ldC h2 g j=ldC h g j:=λj=>aW (o2 g λe=>hNg e.symm) j
 have kF:∀{α:Type}{r:Rc α}{A:Option Addr}{n K:Nat}{xs:List α},Sa r F h A n K xs->Sa r F h2 A n K xs:=λs=>s.off m2 λz hz e=>((dj gA).1 hD).2 (e ▸ hz)
 have hfa:f a = [.int .i64 (N.arc a).1,.int .i64 (N.arc a).2.1,.int .i64 (N.arc a).2.2]:=hrel a _ (ab.arc_get ha)
 have hen:∀q,(N.setW a w).endsL q=N.endsL q:=Shp.endsL S
 have hpl:(N.setW a w).plL=N.plL:=Shp.plL S
 refine⟨⟨o.1,by omega⟩,⟨a1,a2,a3,(hg _).trans a4,kF a5⟩,⟨_,b2,b3,(hg _).trans b4,al.of_elems (by rw[<-hb2];exact S.na) hD (by omega) B2 (λk=>?_) hK2 λk x hx=>?_⟩,⟨c1,c2,c3,(hg _).trans c4,c5.off m2 λz hz _ e=>((dj gA).1 hD).1 (e ▸ hz)⟩,⟨d1,d2,d3,(hg _).trans d4,by rw[hen];exact kF d5⟩,⟨e1,e2,e3,(hg _).trans e4,by rw[hen];exact kF e5⟩,⟨f1,f2,f3,(hg _).trans f4,by rw[hpl];exact kF f5⟩,hok,by rw[S.nv,S.na];exact fw,dj⟩
 ·unfold upd
  split
  ·simp[hf]
  ·exact hf k
 ·show aJ.rel _ h2 (upd f a ((f a).set 2 (.int .i64 w)) k) x
  have hx':(N.xa.set a ((N.arc a).1,(N.arc a).2.1,w))[k]? = some x:=hx
  rw[List.getElem?_set]at hx'
  unfold upd
  by_cases e:k=a
  ·subst e
   rw[if_pos rfl,if_pos (by exact ha)]at hx'
   obtain rfl:=Option.some.inj hx'
   rw[if_pos rfl,hfa]
   rfl
  ·rw[if_neg (λh=>e h.symm)]at hx'
   rw[if_neg e]
   exact hrel k x hx'
end
end Eva
end
section
open Go Go.RowKit
namespace Eva
section
variable {h h':AH}{F Fa Ft:Nat->Prop}{Q:Value->AH->Prop}{A:Option Addr}{n K g:Nat}{N:ab}
theorem Eh {ins outs:Int}{costs:List Int}(hs:Sa cI F h A n K costs) (hok:cg ins outs costs){i o:Nat}(hi:(i:Int)<ins) (ho:(o:Int)<outs){c:Int}(hc:aL c=true)
  (hK:∀A' K' h',Sa cI (λz=>h.next<=z) h' A' n K' (costs.set (i*outs.toNat+o) c)->Nw h h'->Q (.tuple #[.agg #[.int .i64 ins,.int .i64 outs,.slice A' n K'],.nilIface]) h') :
  WC Tryz.prog 221 [.agg #[.int .i64 ins,.int .i64 outs,.slice A n K],.int .i64 i,.int .i64 o,.int .i64 c] h Q:=by
 have hlen:=hs.len
 have h16:=hok.ins_
 have h17:=hok.outs_
 have hcl:=hok.len
 obtain⟨ins,rfl⟩:=Int.eq_ofNat_of_zero_le h16.1
 obtain⟨outs,rfl⟩:=Int.eq_ofNat_of_zero_le h17.1
 have hio:i*outs+o<ins*outs:=lB (by omega) (by omega)
 have hn:n=ins*outs:=by
  have h3:((costs.length:Nat):Int)=((ins*outs:Nat):Int):=by rw[hcl];simp
  omega
 have hmul:ins*outs<=16*16:=Nat.mul_le_mul (by omega) (by omega)
 have hmul2:i*outs<=16*16:=Nat.mul_le_mul (by omega) (by omega)
 obtain⟨t,ht⟩:∃t,i*outs=t:=⟨_,rfl⟩
 rw[ht]at hio hmul2
 refine sP λh1 e1 h2 e2=>?_
 obtain⟨k1,g1,z1⟩:=aj e1
 obtain⟨k2,g2,z2⟩:=aj e2
 have k12:=k1.trans k2
 have b1:∀{h'},Nw h2 h'->Bk h' h.next [.int .i64 (ins:Int),.int .i64 (outs:Int),.slice A n K] 271:=λa=>a.bk (by omega) (k2.bk (by omega) g1)
 have q:∀{h'}(a:Nw h2 h'){j v},[Value.int .i64 (ins:Int),.int .i64 (outs:Int),.slice A n K][j]? = some v->ldC h' h.next j=some v:=fun {h'} a {j v} hj=>aa (b1 a) hj
 refine⟨λh=>absurd h (by omega),λ_=>⟨_,q (Nw.refl _) (j:=0) rfl,λh=>absurd h (by omega),λ_=>⟨λh=>absurd h (by omega),λ_=>⟨_,q (Nw.refl _) (j:=1) rfl,λh=>absurd h (by omega),λ_=>ij hc ⟨_,rfl,λ_=>⟨_,_,_,_,_,aG (q (Nw.refl _) (j:=0) rfl) (q (Nw.refl _) (j:=1) rfl) (q (Nw.refl _) (j:=2) rfl),nW (hs.z.nw k12) hok λh12 k3=>⟨none,rfl,λ_=>⟨_,_,_,q k3 (j:=2) rfl,tq (hs.nw (k12.trans k3)) (by omega) λA8 K8 h13 o8 k8 lo8=>⟨_,_,_,rfl,?_⟩⟩,λt u h=>by cases h⟩⟩,λh=>Bool.noConfusion h⟩⟩⟩⟩⟩
 have z12:=k3.next
 have z13:=k8.next
 obtain⟨g8,rfl,d8,l8,B8⟩:=o8.ints (by omega)
 have lg8:=lo8 _ d8
 obtain⟨h14,s14,B14,z14,o14⟩:=aA (v:=.slice (some ⟨g8,0,none⟩) n K8) (o:=2) (b1 (k3.trans k8)) (by simp) rfl
 have B14':Bk h14 h.next [.int .i64 (ins:Int),.int .i64 (outs:Int),.slice (some ⟨g8,0,none⟩) n K8] 271:=B14
 have B8':=(o14 g8 (by omega)).trans B8
 obtain⟨h15,s15,B15,z15,o15⟩:=aA (v:=.int .i64 c) (o:=0+(t+o)) B8' (by rw[List.length_map];omega) rfl
 have B15':Bk h15 h.next [.int .i64 (ins:Int),.int .i64 (outs:Int),.slice (some ⟨g8,0,none⟩) n K8] 271:=(o15 _ (by omega)).trans B14'
 obtain⟨h16,s16,B16,z16,o16⟩:=bI (vs:=[.int .i64 (ins:Int),.int .i64 (outs:Int),.slice (some ⟨g8,0,none⟩) n K8]) ((o15 _ (by omega)).trans ((o14 _ (by omega)).trans ((k3.trans k8).bk (by omega) g2))) rfl (ez rfl rfl rfl)
 have w1:IntKind.i64.wrap ((i:Int)*(outs:Int))=(t:Int):=by
  rw[<-Int.natCast_mul,ht]
  exact ah (by omega) (by omega)
 have w2:IntKind.i64.wrap ((t:Int)+(o:Int))=((t+o:Nat):Int):=by rw[Int.natCast_add];exact ah (by omega) (by omega)
 refine⟨h14,s14,_,_,_,aa B14' rfl,_,aa B14' rfl,_,w1,_,w2,t+o,rfl,g8,0,rfl,by omega,h15,s15,_,_,_,_,_,aG (aa B15' rfl) (aa B15' rfl) (aa B15' rfl),h16,s16,_,_,_,_,_,aG (aa B16 rfl) (aa B16 rfl) (aa B16 rfl),hK _ _ h16 ?_ ?_⟩
 ·have e:(costs.map (Value.int .i64)).set (0+(t+o)) (.int .i64 c)=(costs.set (i*(outs:Int).toNat+o) c).map (Value.int .i64):=by
   rw[List.map_set,Int.toNat_natCast,ht,Nat.zero_add]
  refine Sa.of_ints (e:=2) (f:=false) ?_ (by rw[List.length_set];exact hlen) (by omega) (by omega)
  have:=(o16 g8 (by omega)).trans B15
  rwa [e]at this
 ·exact⟨by omega,λz hz=>(o16 z (by omega)).trans ((o15 z (by omega)).trans ((o14 z (by omega)).trans (((k12.trans k3).trans k8).get z hz)))⟩
theorem Ei (X0:GrX h Fa Ft F g N){t i o:Nat}(ht:t<N.ts.length) (hi:(i:Int)<(N.tb t).1) (ho:(o:Int)<(N.tb t).2.1){c:Int}(hc:aL c=true) (hK:∀h',iL h h' Fa Ft F g (N.bend t i o c)->Q .nilIface h') :
  WC Tryz.prog 151 [.pointer (some ⟨g,0,none⟩),.int .i64 t,.int .i64 i,.int .i64 o,.int .i64 c] h Q:=by
 have X:=X0.lt
 have S:=ab.bend_shp (N:=N) t i o c
 have hok:=ab.bend_ok X.ok (t:=t) (i:=i) (o:=o) ht hc
 have htk:=ab.tb_ok X.ok ht
 obtain⟨⟨o1,o2⟩,⟨a1,a2,a3,a4,a5⟩,⟨b1,b2,b3,b4,b5⟩,⟨c1,c2,c3,c4,c5⟩,⟨d1,d2,d3,d4,d5⟩,⟨y1,y2,y3,y4,y5⟩,⟨f1,f2,f3,f4,f5⟩,ok,fw,dj⟩:=X
 have hnt:=ok.nt
 have hc2:N.ts.length=c2:=c5.len
 obtain⟨gT,f,rfl,hD,hlt,hB,hf,hK2,hfl,hrel⟩:=c5.elems (by omega) (by decide)
 have htt:N.ts[t]? = some (N.tb t):=by simp[ab.tb,List.getElem?_eq_getElem ht]
 obtain⟨A',n',K',hft,hs⟩:=hrel t _ htt
 have hld:∀j u,(f t)[j]? = some u->ldC h gT (0+t*3+j)=some u:=λj u hj=>by
  have hj3:j<3:=by have:=(List.getElem?_eq_some_iff.1 hj).1;rw[hf]at this;exact this
  rw[aP hB,Nat.zero_add,tp (s:=3) hf (by omega) hj3,hj]
 have hl3:ldN h gT (0+t*3) 3=some [.int .i64 (N.tb t).1,.int .i64 (N.tb t).2.1,.slice A' n' K']:=aG (hld 0 _ (by rw[hft];rfl)) (hld 1 _ (by rw[hft];rfl)) (hld 2 _ (by rw[hft];rfl))
 refine jk ⟨λh=>absurd h (by omega),λ_=>⟨g,0,rfl,_,_,_,c4,λh=>absurd h (by omega),λ_=>⟨_,_,_,c4,t,rfl,gT,0,rfl,by omega,_,_,_,_,_,hl3,Eh hs htk hi ho hc λA4 K4 h3 s3 k3=>⟨_,_,_,_,_,none,rfl,λh4 e4=>?_⟩⟩⟩⟩
 obtain⟨h5,s5,k5,g5,z5⟩:=ay (vs:=[.int .i64 (N.tb t).1,.int .i64 (N.tb t).2.1,.slice A4 n' K4]) e4 rfl (ez rfl rfl rfl)
 have k35:=k3.trans k5
 have z3:=k3.next
 obtain⟨h6,s6,B6,z6,o6⟩:=uQ (k35.bk hlt hB) hf (k:=t) (by omega) (v:=[.int .i64 (N.tb t).1,.int .i64 (N.tb t).2.1,.slice A4 n' K4]) rfl (ez rfl rfl rfl)
 have m6:Mt (λz=>z=gT) h5 h6:=⟨by omega,λz _ hn=>o6 z hn⟩
 have m:Mt (λz=>z=gT) h h6:=(Mt.of k35).then m6
 have hNg:gT≠g:=λe=>(dj gT).2 hD (e ▸ o1)
 have hg:∀{h'} j,Nw h h'->ldC h' g j=ldC h g j:=λj a=>a.ldC o2 j
 have hg6:∀j,ldC h6 g j=ldC h g j:=λj=>aW (m.get g o2 λe=>hNg e.symm) j
 have kF:∀{α:Type}{r:Rc α}{A:Option Addr}{n K:Nat}{xs:List α},Sa r (λz=>F z/\z<h.next) h A n K xs->Sa r (λz=>F z/\z<h.next) h6 A n K xs:=λs=>s.off m λz hz e=>(dj gT).2 hD (e ▸ hz)
 refine⟨h5,s5,λ_=>⟨_,_,_,(hg 2 k35).trans c4,_,_,_,_,_,aG (aa g5 rfl) (aa g5 rfl) (aa g5 rfl),gT,0,rfl,by omega,h6,s6,hK h6 ⟨⟨λz=>Fa z/\z<h.next,λz=>(Ft z/\z<h.next)\/h.next<=z,λz=>F z/\z<h.next,?_,λz hz=>?_,λz hz=>hz.1⟩,m.mono λz hz _=>.inr (hz ▸ hD.1)⟩⟩,λt u h=>by cases h⟩
 ·refine⟨⟨o1,by have:=m.next;omega⟩,⟨a1,a2,a3,(hg6 _).trans a4,kF a5⟩,⟨b1,b2,b3,(hg6 _).trans b4,b5.off m λz hz _ e=>((dj z).1 hz).1 (e ▸ hD)⟩,⟨_,c2,c3,(hg6 _).trans c4,al.of_elems (by rw[<-hc2];exact S.nt) (.inl hD) (by have:=m.next;omega) B6 (λk=>?_) hK2 λk x hx=>?_⟩,⟨d1,d2,d3,(hg6 _).trans d4,by rw[Shp.endsL S];exact kF d5⟩,⟨y1,y2,y3,(hg6 _).trans y4,by rw[Shp.endsL S];exact kF y5⟩,⟨f1,f2,f3,(hg6 _).trans f4,by rw[Shp.plL S];exact kF f5⟩,hok,by rw[S.nv,S.na];exact fw,λz=>⟨λhz=>⟨λhd=>hd.elim ((dj z).1 hz).1 λhd=>by have:=hz.2;omega,((dj z).1 hz).2⟩,λhd hz=>hd.elim (λhd=>(dj z).2 hd hz) λhd=>by have:=hz.2;omega⟩⟩
  ·unfold upd
   split
   ·rfl
   ·exact hf k
  ·have hx':(N.ts.set t (uI (N.tb t) i o c))[k]? = some x:=hx
   rw[List.getElem?_set]at hx'
   unfold upd
   by_cases e:k=t
   ·subst e
    rw[if_pos rfl,if_pos ht]at hx'
    obtain rfl:=Option.some.inj hx'
    rw[if_pos rfl]
    exact⟨A4,n',K4,rfl,((s3.nw k5).off m6 λz hz e=>by omega).mono λz hz _=>⟨.inr hz,by omega⟩⟩
   ·rw[if_neg (λh=>e h.symm)]at hx'
    rw[if_neg e]
    exact dM.mono (λz hz _=>⟨.inl hz.1,hz.2⟩) (dM.keep (λz hz hl=>m.get z hl hz.2) m.next (hrel k x hx'))
 ·rcases hz with hz | hz | hz
  ·exact .inl hz.1
  ·exact .inr (.inl hz.1)
  ·exact .inr (.inr hz)
end
end Eva
end
section
open Go Go.RowKit
namespace Eva
section
variable {h h' h2 h3:AH}{F Fa Ft:Nat->Prop}{Q:Value->AH->Prop}{A:Option Addr}{n K g:Nat}{N M M':ab}{xs:List Chg}
theorem iL.refl (X:GrX h Fa Ft F g N):iL h h Fa Ft F g N:=⟨⟨Fa,Ft,F,X,λz hz=>hz.elim .inl λh=>.inr (.inl h),λz hz=>hz⟩,Mt.refl _ _⟩
theorem iL.nw (T:iL h h2 Fa Ft F g M) (a:Nw h2 h3):iL h h3 Fa Ft F g M:=by
 obtain⟨⟨Fa',Ft',F',X,c1,c2⟩,m⟩:=T
 exact⟨⟨Fa',Ft',F',X.nw a,c1,c2⟩,m.nw a⟩
theorem iL.step (T:iL h h2 Fa Ft F g M){P:Prop}(hK:(∀Fa' Ft' F',GrX h2 Fa' Ft' F' g M->(∀h3 M',iL h2 h3 Fa' Ft' F' g M'->iL h h3 Fa Ft F g M')->P)):P:=by
 obtain⟨⟨Fa',Ft',F',X,c1,c2⟩,m⟩:=T
 refine hK Fa' Ft' F' X λh3 M' T2=>?_
 obtain⟨⟨Fa'',Ft'',F'',X2,d1,d2⟩,m2⟩:=T2
 have hn:=m.next
 refine⟨⟨Fa'',Ft'',F'',X2,λz hz=>?_,λz hz=>c2 z (d2 z hz)⟩,m.trans m2 λz hz hl=>?_⟩
 ·rcases d1 z hz with h | h | h
  ·exact c1 z (.inl h)
  ·exact c1 z (.inr h)
  ·exact .inr (.inr (by omega))
 ·rcases c1 z hz with h | h | h
  ·exact .inl h
  ·exact .inr h
  ·omega
theorem Df (X:GrX h Fa Ft F g N){Fl:Nat->Prop}(hs:Sz dt Fl h A n K xs) (hFl:∀z,Fl z->¬Fa z/\¬Ft z) (B:bu N xs) (hK:∀h',iL h h' Fa Ft F g (N.doL xs)->Q .nilIface h') :
  WC Tryz.prog 81 [.pointer (some ⟨g,0,none⟩),.slice A n K] h Q:=by
 have hl:=hs.len
 have hn:=B.len
 refine oS (wx X.gr hs (λ_ h1 k1=>⟨none,rfl,λ_=>?_,λt u h=>by cases h⟩) λhno=>absurd B hno)
 refine⟨λm x h2=>∃i:Nat,x=i/\i<=n/\m=n - i/\iL h h2 Fa Ft F g (N.doL (xs.take i)),n,⟨0,rfl,Nat.zero_le _,rfl,(iL.refl X).nw k1⟩,?_⟩
 rintro m x h2 ⟨i,rfl,hi,rfl,T⟩
 refine⟨λhlt=>?_,λhge=>?_⟩
 ·obtain⟨b',o',x,hA',-,hlb,hx,hc,hn5⟩:=(hs.off T.mt λz hz hs=>hs.elim (hFl z hz).1 (hFl z hz).2).chg (k:=i) (by omega)
  refine⟨i,rfl,b',o',hA',by omega,_,_,_,_,_,hn5,λh3 e3=>?_⟩
  obtain⟨h4,s4,k4,g4,z4⟩:=ay (vs:=du x) e3 rfl (tF x)
  have S:=ab.doL_shp (xs.take i) (N:=N)
  have hxo:=(B.ok x (List.mem_of_getElem? hx)).shp S
  have htk:xs.take (i+1)=xs.take i ++ [x]:=by rw[List.take_add_one,hx];rfl
  have fin:∀h5,iL h h5 Fa Ft F g ((N.doL (xs.take i)).do1 x)->WR ((i:Int)+1) λx10=>RE (n - i) λm'=>∃i:Nat,x10=i/\i<=n/\m' = n - i/\iL h h5 Fa Ft F g (N.doL (xs.take i)):=λh5 T5=>
   ⟨_,wrS (by omega),n - (i+1),by omega,i+1,rfl,by omega,rfl,by rw[htk,ab.doL_snoc];exact T5⟩
  obtain⟨kd,at_,ci,co,w⟩:=x
  refine⟨h4,s4,kd,aa g4 rfl,λc1=>⟨at_,aa g4 rfl,w,aa g4 rfl,?_⟩,λc1=>⟨λc2=>⟨at_,aa g4 rfl,ci,aa g4 rfl,co,aa g4 rfl,w,aa g4 rfl,?_⟩,λc2=>?_⟩⟩
  ·subst c1
   obtain⟨hw,⟨-,a1,a2,-,-⟩ | ⟨h1,-⟩⟩:=hxo
   ·obtain⟨a,rfl⟩:=Int.eq_ofNat_of_zero_le a1
    refine(T.nw k4).step λFa' Ft' F' X4 st=>EJ X4 (a:=a) (by exact Int.ofNat_lt.1 a2) hw λh5 T5=>⟨none,rfl,λ_=>fin h5 (st h5 _ ?_),λt u h=>by cases h⟩
    exact T5
   ·simp at h1
  ·subst c2
   obtain⟨hw,⟨h1,-⟩ | ⟨-,⟨a1,a2⟩,⟨a3,a4⟩,a5,a6⟩⟩:=hxo
   ·simp at h1
   ·simp only at a1 a2 a3 a4 a5 a6
    obtain⟨a,rfl⟩:=Int.eq_ofNat_of_zero_le a1
    obtain⟨b,rfl⟩:=Int.eq_ofNat_of_zero_le a3
    obtain⟨c,rfl⟩:=Int.eq_ofNat_of_zero_le a5
    refine(T.nw k4).step λFa' Ft' F' X4 st=>Ei X4 (t:=a) (i:=b) (o:=c) (by exact Int.ofNat_lt.1 a2) (by exact a4) (by exact a6) hw λh5 T5=>⟨none,rfl,λ_=>fin h5 (st h5 _ ?_),λt u h=>by cases h⟩
    exact T5
  ·exfalso
   rcases hxo.is with⟨h1,-⟩ | ⟨h1,-⟩
   ·exact c1 h1
   ·exact c2 h1
 ·obtain rfl:i=n:=by omega
  have:xs.take i=xs:=List.take_of_length_le (by omega)
  rw[this]at T
  exact hK h2 T
end
end Eva
end
section
open Go Go.RowKit
theorem wy {nv:Nat}{p:List (List Int)}(hp:ax nv p){k v:Nat}{row:List Int}{x:Int}(hr:p[k]? = some row) (hx:row[v]? = some x):x=(cel p (k+1) v:Int):=by
 have:=(hp.inr _ (List.mem_of_getElem? hr) x (List.mem_of_getElem? hx)).1
 unfold cel
 rw[Nat.add_sub_cancel,hr,Option.getD_some,hx,Option.getD_some]
 omega
namespace Eva
def iX (np:Nat) (B:Nat->Nat) (R:Nat->List Bool):List Value:=(List.range np).map λi=>.slice (some ⟨B i,0,none⟩) (R i).length (cx (R i).length)
structure MkA (base:Nat) (h:AH) (T np:Nat) (B:Nat->Nat) (R:Nat->List Bool):Prop where
 top:Bk h T (iX np B R) 183
 row:∀i,i<np->Bk h (B i) ((R i).map Value.bool) 4
 one:∀i j,i<np->j<np->B i=B j->i=j
 apart:∀i,i<np->B i≠T
 lo:base<=T/\∀i,i<np->base<=B i
 lt:T<h.next/\∀i,i<np->B i<h.next
section
variable {base:Nat}{h h':AH}{F:Nat->Prop}{Q:Value->AH->Prop}{A:Option Addr}{n K T np:Nat}{B:Nat->Nat}{R:Nat->List Bool}{p:List (List Int)}
theorem MkA.keep (M:MkA base h T np B R) (hk:∀z,base<=z->z<h.next->h'.get z=h.get z) (hn:h.next<=h'.next):MkA base h' T np B R:=
 ⟨(hk T M.lo.1 M.lt.1).trans M.top,λi hi=>(hk _ (M.lo.2 i hi) (M.lt.2 i hi)).trans (M.row i hi),M.one,M.apart,M.lo,by have:=M.lt.1;omega,λi hi=>by have:=M.lt.2 i hi;omega⟩
theorem MkA.nw (M:MkA base h T np B R) (a:Nw h h'):MkA base h' T np B R:=M.keep (λz _ hz=>a.get z hz) a.next
theorem MkA.off (M:MkA base h T np B R){S:Nat->Prop}(m:Mt S h h') (hS:∀z,S z->z=T\/(∃i,i<np/\z=B i)->False):MkA base h' T np B R:=
 ⟨(m.get T M.lt.1 λhs=>hS T hs (.inl rfl)).trans M.top,λi hi=>(m.get _ (M.lt.2 i hi) λhs=>hS _ hs (.inr ⟨i,hi,rfl⟩)).trans (M.row i hi),M.one,M.apart,M.lo,by have:=M.lt.1;have:=m.next;omega,λi hi=>by have:=M.lt.2 i hi;have:=m.next;omega⟩
theorem MkA.at_ (M:MkA base h T np B R){i:Nat}(hi:i<np):ldC h T (0+i)=some (.slice (some ⟨B i,0,none⟩) (R i).length (cx (R i).length)):=by
 refine aa M.top ?_
 rw[Nat.zero_add]
 simp[iX,hi]
theorem xP {l:List Bool}{k:Nat}{b:Bool}:(l.map Value.bool).set k (.bool b)=(l.set k b).map Value.bool:=by rw[List.map_set]
theorem MkA.put (M:MkA base h T np B R){i c:Nat}(hi:i<np) (hc:c<(R i).length):∃h2,stC h (B i) (0+c) [.bool true]=some h2/\MkA base h2 T np B (upd R i ((R i).set c true))/\Mt (λz=>∃i,i<np/\z=B i) h h2:=by
 obtain⟨h2,s2,B2,z2,o2⟩:=aA (v:=.bool true) (o:=0+c) (M.row i hi) (by rw[List.length_map];omega) rfl
 rw[Nat.zero_add,xP]at B2
 have hl:∀j,(upd R i ((R i).set c true) j).length=(R j).length:=λj=>by
  unfold upd
  split
  ·rename_i e;rw[List.length_set,e]
  ·rfl
 refine⟨h2,s2,⟨?_,λj hj=>?_,M.one,M.apart,M.lo,by have:=M.lt.1;omega,λj hj=>by have:=M.lt.2 j hj;omega⟩,by omega,λz _ hn=>o2 z λe=>hn ⟨i,hi,e⟩⟩
 ·have:iX np B (upd R i ((R i).set c true))=iX np B R:=by
   unfold iX
   congr 1
   funext j
   rw[hl]
  rw[this]
  exact(o2 T λe=>M.apart i hi e.symm).trans M.top
 ·unfold upd
  by_cases e:j=i
  ·subst e
   rw[if_pos rfl]
   exact B2
  ·rw[if_neg e]
   exact(o2 _ λh=>e (M.one j i hj hi h)).trans (M.row j hj)
def bJ (p:List (List Int)) (a b i:Nat) (r:List Bool):List Bool:=if cel p (i+1) a=cel p (i+1) b then r.set (cel p (i+1) a) true else r
theorem oq (p:List (List Int)) (a b i:Nat) (r:List Bool):(bJ p a b i r).length=r.length:=by unfold bJ;split <;>simp
theorem Cn (M:MkA base h T np B R){nv:Nat}(hp:ax nv p) (hs:Sa aY F h A np K p) (hF:∀z,F z->∀i,i<np->z≠B i) (hR:∀i,i<np->(R i).length=ap p (i+1)) (hnp:np<=1000){a b:Nat}(ha:a<nv) (hb:b<nv)
  (hK:∀h',MkA base h' T np B (λi=>bJ p a b i (R i))->Mt (λz=>∃i,i<np/\z=B i) h h'->Q (.tuple #[]) h') :
  WC Tryz.prog 146 [.slice (some ⟨T,0,none⟩) np (cx np),.slice A np K,.int .i64 a,.int .i64 b] h Q:=by
 have hl:=hs.len
 refine qV ⟨λm x h1=>∃k:Nat,x=k/\k<=np/\m=np - k/\MkA base h1 T np B (λi=>if i<k then bJ p a b i (R i) else R i)/\Mt (λz=>∃i,i<np/\z=B i) h h1,np,⟨0,rfl,Nat.zero_le _,rfl,by simpa using M,Mt.refl _ _⟩,?_⟩
 rintro m x h1 ⟨k,rfl,hk,rfl,M1,m1⟩
 refine⟨λhlt=>?_,λhge=>?_⟩
 ·have hk':k<np:=by omega
  obtain⟨b1,o1,A',n',K',row,hA,-,-,hrow,l1,sr⟩:=(hs.off m1 λz hz ⟨i,hi,e⟩=>hF z hz i hi e).row hk'
  have hrl:=hp.rows _ (List.mem_of_getElem? hrow)
  have hn':n' = nv:=by rw[<-sr.len];exact hrl
  have next:∀h2,MkA base h2 T np B (λi=>if i<k+1 then bJ p a b i (R i) else R i)->Mt (λz=>∃i,i<np/\z=B i) h1 h2->WR ((k:Int)+1) λx4=>RE (np - k) λm'=>∃k:Nat,x4=k/\k<=np/\m' = np - k/\MkA base h2 T np B (λi=>if i<k then bJ p a b i (R i) else R i)/\Mt (λz=>∃i,i<np/\z=B i) h h2:=λh2 M2 m2=>
   ⟨_,wrS (by omega),np - (k+1),by omega,k+1,rfl,by omega,rfl,M2,m1.then m2⟩
  have eqR:∀r,(r=bJ p a b k (R k))->upd (λi=>if i<k then bJ p a b i (R i) else R i) k r=λi=>if i<k+1 then bJ p a b i (R i) else R i:=λr hr=>by
   funext i
   unfold upd
   by_cases e:i=k
   ·subst e;simp[hr]
   ·rw[if_neg e]
    show(if i<k then bJ p a b i (R i) else R i)=_
    by_cases h:i<k
    ·rw[if_pos h,if_pos (by omega)]
    ·rw[if_neg h,if_neg (by omega)]
  obtain⟨ba,oa,xa,hAa,-,-,hxa,la⟩:=sr.int (k:=a) (by omega)
  obtain⟨bb,ob,xb,hAb,-,-,hxb,lb⟩:=sr.int (k:=b) (by omega)
  have hxa':=wy hp hrow hxa
  have hxb':=wy hp hrow hxb
  have e1:some (⟨ba,oa,none⟩:Addr)=some ⟨bb,ob,none⟩:=hAa.symm.trans hAb
  obtain⟨rfl,rfl⟩:ba=bb/\oa=ob:=by simpa using e1
  have hcm:=cE hp (k:=k+1) (by omega) (by omega) ha
  have hk1:(λi=>if i<k then bJ p a b i (R i) else R i) k=R k:=by simp
  have at1:=M1.at_ hk'
  simp only[Nat.lt_irrefl,if_false]at at1
  refine⟨k,rfl,b1,o1,hA,hk',A',n',K',l1,λh=>absurd h (by omega),λ_=>⟨λh=>absurd h (by omega),λ_=>⟨λh=>absurd h (by omega),λ_=>⟨λh=>absurd h (by omega),λ_=>⟨λh=>absurd h (by omega),λ_=>⟨a,rfl,ba,oa,hAa,by omega,xa,la,b,rfl,by omega,xb,lb,λheq=>⟨λh0=>⟨T,0,rfl,hk',_,_,_,at1,λhlt2=>⟨hk',_,_,_,at1,cel p (k+1) a,hxa',B k,0,rfl,by rw[hR k hk'];exact hcm,?_⟩,λh=>absurd hcm (by rw[hR k hk']at h;omega)⟩,λh=>absurd h (by omega)⟩,λhne=>next h1 ?_ (Mt.refl _ _)⟩⟩⟩⟩⟩⟩
  ·obtain⟨h2,s2,M2,m2⟩:=M1.put hk' (c:=cel p (k+1) a) (by simp only[Nat.lt_irrefl,if_false];rw[hR k hk'];exact hcm)
   rw[eqR _ (by simp only[Nat.lt_irrefl,if_false];unfold bJ;rw[if_pos (by omega)])]at M2
   exact⟨h2,s2,next h2 M2 m2⟩
  ·have:(λi=>if i<k+1 then bJ p a b i (R i) else R i)=λi=>if i<k then bJ p a b i (R i) else R i:=by
    rw[<-eqR (R k) (by unfold bJ;rw[if_neg (by omega)])]
    funext i
    unfold upd
    by_cases e:i=k
    ·subst e;simp
    ·rw[if_neg e]
   rw[this]
   exact M1
 ·obtain rfl:k=np:=by omega
  refine hK h1 (M1.keep (λ_ _ _=>rfl) (Nat.le_refl _) |> λM=>?_) m1
  refine⟨?_,λi hi=>?_,M.one,M.apart,M.lo,M.lt⟩
  ·have:=M.top
   have e:iX k B (λi=>if i<k then bJ p a b i (R i) else R i)=iX k B (λi=>bJ p a b i (R i)):=by
    unfold iX
    apply List.map_congr_left
    intro i hi
    have:i<k:=by simpa using hi
    simp[this]
   rwa [e]at this
  ·have:=M.row i hi
   simp only[if_pos hi]at this
   exact this
end
end Eva
end
section
open Go Go.RowKit
namespace Eva
theorem ou {p:List (List Int)}{a b j c:Nat}{r:List Bool}:(bJ p a b j r)[c]? = some true↔r[c]? = some true\/(cel p (j+1) a=cel p (j+1) b/\c=cel p (j+1) a/\c<r.length):=by
 unfold bJ
 split
 ·rename_i e
  rw[List.getElem?_set]
  by_cases h:cel p (j+1) a=c
  ·rw[if_pos h]
   by_cases hl:cel p (j+1) a<r.length
   ·rw[if_pos hl]
    exact⟨λ_=>.inr ⟨e,h.symm,by omega⟩,λ_=>rfl⟩
   ·rw[if_neg hl]
    constructor
    ·intro h;cases h
    ·rintro(h1 | ⟨_,_,h3⟩)
     ·have:=(List.getElem?_eq_some_iff.1 h1).1;omega
     ·omega
  ·rw[if_neg h]
   exact⟨.inl,λhh=>hh.elim id λ⟨_,h2,_⟩=>absurd h2.symm h⟩
 ·rename_i e
  exact⟨.inl,λhh=>hh.elim id λ⟨h1,_⟩=>absurd h1 e⟩
section
variable {h h':AH}{F Fa Fo:Nat->Prop}{Q:Value->AH->Prop}{A:Option Addr}{n K g o:Nat}{N:ab}{p:List (List Int)}{xs:List Chg}
def rB (N:ab) (p:List (List Int)) (xs:List Chg) (i:Nat) (R:Nat->List Bool):Prop:=
 (∀j,j<p.length->(R j).length=ap p (j+1))/\∀j c,j<p.length->((R j)[c]? = some true↔c<ap p (j+1)/\∃q x,q<i/\xs[q]? = some x/\Tch N p (j+1) c x)
theorem rB.next {i:Nat}{R R':Nat->List Bool}{x:Chg}(M:rB N p xs i R) (hx:xs[i]? = some x) (hl:∀j,j<p.length->(R' j).length=(R j).length) (h:∀j c,j<p.length->c<ap p (j+1)->((R' j)[c]? = some true↔(R j)[c]? = some true\/Tch N p (j+1) c x)):rB N p xs (i+1) R':=by
 refine⟨λj hj=>(hl j hj).trans (M.1 j hj),λj c hj=>?_⟩
 have hlen:(R' j).length=ap p (j+1):=(hl j hj).trans (M.1 j hj)
 constructor
 ·intro h1
  have hc:c<ap p (j+1):=by rw[<-hlen];exact(List.getElem?_eq_some_iff.1 h1).1
  refine⟨hc,?_⟩
  rcases(h j c hj hc).1 h1 with h2 | h2
  ·obtain⟨_,q,y,h3,h4,h5⟩:=(M.2 j c hj).1 h2
   exact⟨q,y,by omega,h4,h5⟩
  ·exact⟨i,x,by omega,hx,h2⟩
 ·rintro⟨hc,q,y,h3,h4,h5⟩
  refine(h j c hj hc).2 ?_
  by_cases e:q=i
  ·subst e
   rw[hx]at h4
   obtain rfl:=Option.some.inj h4
   exact .inr h5
  ·exact .inl ((M.2 j c hj).2 ⟨hc,q,y,by omega,h4,h5⟩)
theorem zX (G:GrA h Fa F g N) (O:OvA h Fo o N p){Fl:Nat->Prop}(hs:Sz dt Fl h A n K xs) (hK1:bu N xs->∀T B R h',MkA h.next h' T p.length B R->rB N p xs n R->Nw h h'->Q (.tuple #[.slice (some ⟨T,0,none⟩) p.length (cx p.length),.nilIface]) h')
  (hK2:¬bu N xs->∀t u h',Nw h h'->Q (.tuple #[.slice none 0 0,.iface t u]) h') :
  WC Tryz.prog 80 [.pointer (some ⟨g,0,none⟩),.pointer (some ⟨o,0,none⟩),.slice A n K] h Q:=by
 have hl:=hs.len
 have hp:=O.hp
 have hnp:=hp.few
 have hok:=O.ok
 have hnfew:=O.nfew
 have hmost:∀k,1<=k->k<=p.length->ap p k<=N.nv:=λk h1 h2=>by
  obtain⟨row,hr⟩:∃row,p[k - 1]? = some row:=⟨_,List.getElem?_eq_getElem (by omega)⟩
  have h2:=fM hr
  have h3:=cP (row:=row) (n:=(N.nv:Int)) (by omega) (λx hx=>(hp.inr _ (List.mem_of_getElem? hr) x hx).2)
  omega
 refine lO (wx G hs (λB h1 k1=>⟨none,rfl,λ_=>?_,λt u h=>by cases h⟩) λhno t u h1 k1=>⟨some (t,u),rfl,λh=>(by cases h),λt' u' e=>by cases e;exact hK2 hno t u h1 k1⟩)
 have hn:=B.len
 refine rp (O.nw k1) ⟨_,rfl,p.length,rfl,by omega,λh3 e3=>?_⟩
 obtain⟨k3,g3,z3⟩:=aj e3
 rw[a9]at g3
 have k13:=k1.trans k3
 obtain⟨T,hT⟩:∃T,h1.next=T:=⟨_,rfl⟩
 have z1:=k1.next
 rw[hT]at g3 z3
 rw[hT]
 refine⟨λm x h4=>∃(i:Nat) (B:Nat->Nat),x=i/\i<=p.length/\m=p.length - i/\Bk h4 T ((List.range p.length).map λj=>if j<i then .slice (some ⟨B j,0,none⟩) (ap p (j+1)) (cx (ap p (j+1))) else .slice none 0 0) 183/\(∀j,j<i->Bk h4 (B j) (List.replicate (ap p (j+1)) (.bool false)) 4/\T<B j/\B j<h4.next)/\(∀j j',j<i->j' < i->B j=B j'->j=j')/\Nw h h4/\T<h4.next,p.length,
  ⟨0,λ_=>0,rfl,Nat.zero_le _,rfl,?_,λj hj=>absurd hj (by omega),λj j' hj=>absurd hj (by omega),k13,by omega⟩,?_⟩
 ·have e:(List.range p.length).map (λj=>if j<0 then Value.slice (some ⟨(λ_=>0:Nat->Nat) j,0,none⟩) (ap p (j+1)) (cx (ap p (j+1))) else .slice none 0 0)=List.replicate p.length (.slice none 0 0):=by
   simp[List.map_const']
  rw[e]
  exact g3
 rintro m x h4 ⟨i,Bf,rfl,hi,rfl,b4,r4,d4,k4,lt4⟩
 refine⟨λhlt=>?_,λhge=>?_⟩
 ·have hi':i<p.length:=by omega
  have hm:=hmost (i+1) (by omega) (by omega)
  refine⟨_,wrS (by omega),rq (O.nw k4) (k:=i+1) (by omega) (by omega) ⟨_,rfl,ap p (i+1),rfl,by omega,λh6 e6=>?_⟩⟩
  obtain⟨k6,g6,z6⟩:=aj e6
  rw[a9]at g6
  obtain⟨h7,s7,B7,z7,o7⟩:=aA (v:=.slice (some ⟨h4.next,0,none⟩) (ap p (i+1)) (cx (ap p (i+1)))) (o:=0+i) (k6.bk lt4 b4) (by simp;omega) rfl
  refine⟨i,rfl,hi',h7,s7,_,wrS (by omega),p.length - (i+1),by omega,i+1,upd Bf i h4.next,rfl,by omega,rfl,?_,λj hj=>?_,λj j' hj hj' he=>?_,⟨by have:=k4.next;omega,λz hz=>(o7 z (by omega)).trans ((k6.get z (by have:=k4.next;omega)).trans (k4.get z hz))⟩,by omega⟩
  ·rw[Nat.zero_add]at B7
   have e:((List.range p.length).map λj=>if j<i then Value.slice (some ⟨Bf j,0,none⟩) (ap p (j+1)) (cx (ap p (j+1))) else .slice none 0 0).set i (.slice (some ⟨h4.next,0,none⟩) (ap p (i+1)) (cx (ap p (i+1))))=(List.range p.length).map λj=>if j<i+1 then Value.slice (some ⟨upd Bf i h4.next j,0,none⟩) (ap p (j+1)) (cx (ap p (j+1))) else .slice none 0 0:=by
    apply List.ext_getElem?
    intro j
    rw[List.getElem?_set]
    by_cases e:i=j
    ·subst e
     simp[hi',upd]
    ·rw[if_neg e]
     by_cases hj:j<p.length
     ·have e':¬j=i:=λh=>e h.symm
      by_cases h:j<i
      ·simp[hj,h,upd,e',Nat.lt_succ_of_lt h]
      ·have h'':¬j<i+1:=by omega
       simp[hj,h,h'']
     ·simp[hj]
   rw[<-e]
   exact B7
  ·unfold upd
   by_cases e:j=i
   ·subst e
    rw[if_pos rfl]
    exact⟨(o7 _ (by omega)).trans g6,by omega,by omega⟩
   ·rw[if_neg e]
    obtain⟨r1,r2,r3⟩:=r4 j (by omega)
    exact⟨(o7 _ (by omega)).trans ((k6.get _ r3).trans r1),r2,by omega⟩
  ·unfold upd at he
   by_cases e:j=i
   ·by_cases e':j' = i
    ·omega
    ·rw[if_pos e,if_neg e']at he
     have:=(r4 j' (by omega)).2.2
     omega
   ·by_cases e':j' = i
    ·rw[if_neg e,if_pos e']at he
     have:=(r4 j (by omega)).2.2
     omega
    ·rw[if_neg e,if_neg e']at he
     exact d4 j j' (by omega) (by omega) he
 ·obtain rfl:i=p.length:=by omega
  have M4:MkA h.next h4 T p.length Bf (λj=>List.replicate (ap p (j+1)) false):=by
   refine⟨?_,λj hj=>by rw[List.map_replicate];exact(r4 j hj).1,d4,λj hj=>by have:=(r4 j hj).2.1;omega,⟨by omega,λj hj=>by have:=(r4 j hj).2.1;omega⟩,lt4,λj hj=>(r4 j hj).2.2⟩
   have e:iX p.length Bf (λj=>List.replicate (ap p (j+1)) false)=(List.range p.length).map λj=>if j<p.length then .slice (some ⟨Bf j,0,none⟩) (ap p (j+1)) (cx (ap p (j+1))) else .slice none 0 0:=by
    unfold iX
    apply List.map_congr_left
    intro j hj
    have:j<p.length:=by simpa using hj
    simp[this]
   rw[e];exact b4
  have ok0:rB N p xs 0 (λj=>List.replicate (ap p (j+1)) false):=⟨λj _=>by simp,λj c hj=>⟨λh=>(by rw[List.getElem?_replicate]at h;split at h <;>cases h),λ⟨_,q,x,h,_⟩=>absurd h (by omega)⟩⟩
  have okn:(n:Int)=0->rB N p xs n (λj=>List.replicate (ap p (j+1)) false):=λh0=>by
   obtain rfl:n=0:=by omega
   exact ok0
  refine⟨λh0=>hK1 B T Bf _ h4 M4 (okn h0) k4,λhn0=>zP (O.nw k4) λA2 K2 h8 s8 k8=>⟨_,_,_,rfl,Eg (G.nw (k4.trans k8)) λA3 n3 K3 A4 n4 K4 A5 n5 K5 h9 t1 t2 t3 k9=>⟨_,_,_,_,_,_,_,_,_,rfl,λh10 e10=>?_⟩⟩⟩
  obtain⟨h11,s11,k11,g11,z11⟩:=ay (vs:=[.slice A3 n3 K3,.slice A4 n4 K4,.slice A5 n5 K5]) e10 rfl (ez rfl rfl rfl)
  have z8:=k8.next
  have z9:=k9.next
  have k411:=(k8.trans k9).trans k11
  have k011:=k4.trans k411
  have SB:∀z,(∃j,j<p.length/\z=Bf j)->T<z/\z<h4.next:=λz ⟨j,hj,e⟩=>by subst e;exact(r4 j hj).2
  refine⟨h11,s11,λm x h12=>∃(i:Nat) (R:Nat->List Bool),x=i/\i<=n/\m=n - i/\MkA h.next h12 T p.length Bf R/\rB N p xs i R/\Mt (λz=>∃j,j<p.length/\z=Bf j) h11 h12,n,⟨0,_,rfl,Nat.zero_le _,rfl,M4.nw k411,ok0,Mt.refl _ _⟩,?_⟩
  rintro m x h12 ⟨i,R,rfl,hi2,rfl,M12,ok12,m12⟩
  have k12:Nw h h12:=m12.is_nw k011 λz hz=>by have:=(SB z hz).1;omega
  have z12:=m12.next
  refine⟨λhlt=>?_,λhge=>?_⟩
  ·have hi':i<n:=by omega
   obtain⟨b',o',x,hA',-,hlb,hx,hc,hn5⟩:=(hs.nw k12).chg (k:=i) hi'
   have hxo:=B.ok x (List.mem_of_getElem? hx)
   refine⟨i,rfl,b',o',hA',hi',_,_,_,_,_,hn5,λh13 e13=>?_⟩
   obtain⟨h14,s14,k14,g14,z14⟩:=ay (vs:=du x) e13 rfl (tF x)
   have M14:=M12.nw k14
   have G14:=G.nw (k12.trans k14)
   have g11':∀{h'},Nw h12 h'->Bk h' h9.next [.slice A3 n3 K3,.slice A4 n4 K4,.slice A5 n5 K5] 209:=λa=>a.bk (by omega) (m12.bk (by omega) (λhz=>by have:=(SB _ hz).2;omega) g11)
   have next:∀h' R',MkA h.next h' T p.length Bf R'->rB N p xs (i+1) R'->Mt (λz=>∃j,j<p.length/\z=Bf j) h12 h'->WR ((i:Int)+1) λx16=>RE (n - i) λm'=>∃(i:Nat) (R:Nat->List Bool),x16=i/\i<=n/\m' = n - i/\MkA h.next h' T p.length Bf R/\rB N p xs i R/\Mt (λz=>∃j,j<p.length/\z=Bf j) h11 h':=λh' R' a1 a2 a3=>
    ⟨_,wrS (by omega),n - (i+1),by omega,i+1,R',rfl,by omega,rfl,a1,a2,m12.then a3⟩
   obtain⟨kd,at_,ci,co,w⟩:=x
   have s8':∀{h'},Nw h12 h'->Sa aY (λz=>h4.next<=z) h' A2 p.length K2 p:=λa=>((s8.nw (k9.trans k11)).off m12 λz hz e=>by have:=(SB z e).2;omega).nw a
   refine⟨h14,s14,kd,aa g14 rfl,λc1=>⟨at_,aa g14 rfl,w,aa g14 rfl,?_⟩,λc1=>⟨λc2=>?_,λc2=>?_⟩⟩
   ·subst c1
    obtain⟨hw,⟨-,a1,a2,-,-⟩ | ⟨h1,-⟩⟩:=hxo
    case inr=>simp at h1
    simp only at a1 a2
    obtain⟨a,rfl⟩:=Int.eq_ofNat_of_zero_le a1
    have ha:a<N.na:=Int.ofNat_lt.1 a2
    refine md G14 ha ⟨_,rfl,aa g14 rfl,λheq=>next h14 R M14 (ok12.next hx (λ_ _=>rfl) λj c _ _=>⟨.inl,λhh=>hh.elim id λht=>?_⟩) (.of k14),λhne=>⟨_,aa g14 rfl,_,aa g14 rfl,pV G14 ha ⟨_,rfl,aa g14 rfl,aTo G14 ha ⟨_,rfl,?_⟩⟩⟩⟩
    ·rcases ht with⟨_,h2,_⟩ | ⟨h1,_⟩
     ·exact absurd heq h2
     ·simp at h1
    ·refine Cn M14 hp (s8' k14) (λz hz j hj e=>by have:=(r4 j hj).2.2;omega) ok12.1 (by omega) (ab.fr_lt hok ha).1 (ab.to_lt hok ha).1 λh15 M15 m15=>⟨rfl,next h15 _ M15 (ok12.next hx (λj _=>oq _ _ _ _ _) λj c hj hc=>?_) ((Mt.of k14).then m15)⟩
     rw[ou,ok12.1 j hj]
     constructor
     ·rintro(h1 | ⟨h1,h2,h3⟩)
      ·exact .inl h1
      ·exact .inr (.inl ⟨rfl,hne,h2.symm,by rw[h2];exact h1.symm⟩)
     ·rintro(h1 | ⟨-,-,h2,h3⟩ | ⟨h1,-⟩)
      ·exact .inl h1
      ·exact .inr ⟨h2.trans h3.symm,h2.symm,hc⟩
      ·simp at h1
   ·subst c2
    obtain⟨hw,⟨h1,-⟩ | ⟨-,⟨a1,a2⟩,⟨a3,a4⟩,a5,a6⟩⟩:=hxo
    ·simp at h1
    simp only at a1 a2 a3 a4 a5 a6
    obtain⟨a,rfl⟩:=Int.eq_ofNat_of_zero_le a1
    obtain⟨ti,rfl⟩:=Int.eq_ofNat_of_zero_le a3
    obtain⟨to,rfl⟩:=Int.eq_ofNat_of_zero_le a5
    have ha:a<N.ts.length:=Int.ofNat_lt.1 a2
    have t3':Sa dM (λz=>h8.next<=z) h14 A5 n5 K5 N.ts:=((t3.nw k11).off m12 λz hz e=>by have:=(SB z e).2;omega).nw k14
    have hn5':=t3.len
    obtain⟨bt,ot,ins,outs,A',n',K',zs,hA5,-,-,ht,l0,l1,l2,sz⟩:=t3'.table (k:=a) (by omega)
    have htb:N.tb a=(ins,outs,zs):=by simp[ab.tb,ht]
    have htk:=ab.tb_ok hok ha
    rw[Int.toNat_natCast,htb]at a4 a6
    rw[htb]at htk
    have h16:=htk.ins_
    have h17:=htk.outs_
    simp only at a4 a6 h16 h17
    refine⟨_,_,_,aa (g11' k14) rfl,_,aa g14 rfl,a,rfl,bt,ot,hA5,by omega,_,_,_,_,_,aG l0 l1 l2,_,aa g14 rfl,_,aa g14 rfl,_,aa g14 rfl,vW sz htk ti to (by omega) (by omega) λh19 k19=>⟨_,rfl,aa (k19.bk (by omega) g14) rfl,λheq=>next h19 R (M14.nw k19) (ok12.next hx (λ_ _=>rfl) λj c _ _=>⟨.inl,λhh=>hh.elim id λht=>?_⟩) (.of (k14.trans k19)),λhne=>⟨_,_,_,aa (g11' (k14.trans k19)) rfl,?_⟩⟩⟩
    ·rcases ht with⟨h1,_⟩ | ⟨_,h2,_⟩
     ·simp at h1
     ·simp only[Int.toNat_natCast,htb]at h2
      exact absurd heq h2
    ·have k1219:=k14.trans k19
     have z19:=k1219.next
     have hv3:n3=N.nv:=t1.len.symm
     have t1':Sa aJ (λz=>h8.next<=z) h19 A3 n3 K3 N.vs:=((t1.nw k11).off m12 λz hz e=>by have:=(SB z e).2;omega).nw k1219
     have g14':=k19.bk (by omega) g14
     refine⟨λm x h20=>∃(v:Nat) (R':Nat->List Bool),x=v/\v<=n3/\m=n3 - v/\MkA h.next h20 T p.length Bf R'/\(∀j,j<p.length->(R' j).length=(R j).length)/\(∀j c,j<p.length->c<ap p (j+1)->((R' j)[c]? = some true↔(R j)[c]? = some true\/∃u,u<v/\N.ty u=(a:Int)/\cel p (j+1) u=c))/\Mt (λz=>∃j,j<p.length/\z=Bf j) h19 h20,n3,⟨0,R,rfl,Nat.zero_le _,rfl,M14.nw k19,λ_ _=>rfl,λj c _ _=>⟨.inl,λhh=>hh.elim id λ⟨u,hu,_⟩=>absurd hu (by omega)⟩,Mt.refl _ _⟩,?_⟩
     rintro m x h20 ⟨v,R',rfl,hv,rfl,M20,l20,q20,m20⟩
     have z4a:h4.next<=h12.next:=by omega
     have z1419:=k19.next
     have g20:Bk h20 h12.next (du (2,(a:Int),(ti:Int),(to:Int),w)) 185:=m20.bk (by have:=k19.next;omega) (λhz=>by have:=(SB _ hz).2;omega) g14'
     have z20:=m20.next
     refine⟨λhlt2=>?_,λhge2=>?_⟩
     ·have hv':v<n3:=by omega
      obtain⟨bv,ov,x1,x2,x3,hA3,-,-,hvx,v0,v1,v2⟩:=(t1'.off m20 λz hz e=>by have:=(SB z e).2;omega).tri hv'
      refine⟨v,rfl,bv,ov,hA3,hv',_,_,_,uN v0 v1 v2,λh21 e21=>?_⟩
      obtain⟨h22,s22,k22,g22,z22⟩:=ay (vs:=[.int .i64 x1,.int .i64 x2,.int .i64 x3]) e21 rfl (ez rfl rfl rfl)
      have hty:N.ty v=x3:=by simp[ab.ty,hvx]
      have nxt:∀h' R2,MkA h.next h' T p.length Bf R2->(∀j,j<p.length->(R2 j).length=(R j).length)->(∀j c,j<p.length->c<ap p (j+1)->((R2 j)[c]? = some true↔(R' j)[c]? = some true\/(N.ty v=(a:Int)/\cel p (j+1) v=c)))->Mt (λz=>∃j,j<p.length/\z=Bf j) h20 h'->WR ((v:Int)+1) λx36=>RE (n3 - v) λm'=>∃(v:Nat) (R':Nat->List Bool),x36=v/\v<=n3/\m' = n3 - v/\MkA h.next h' T p.length Bf R'/\(∀j,j<p.length->(R' j).length=(R j).length)/\(∀j c,j<p.length->c<ap p (j+1)->((R' j)[c]? = some true↔(R j)[c]? = some true\/∃u,u<v/\N.ty u=(a:Int)/\cel p (j+1) u=c))/\Mt (λz=>∃j,j<p.length/\z=Bf j) h19 h':=λh' R2 a1 a2 a3 a4=>
       ⟨_,wrS (by omega),n3 - (v+1),by omega,v+1,R2,rfl,by omega,rfl,a1,a2,λj c hj hc=>by
        rw[a3 j c hj hc,q20 j c hj hc]
        constructor
        ·rintro((h1 | ⟨u,h1,h2⟩) | h1)
         ·exact .inl h1
         ·exact .inr ⟨u,by omega,h2⟩
         ·exact .inr ⟨v,by omega,h1⟩
        ·rintro(h1 | ⟨u,h1,h2⟩)
         ·exact .inl (.inl h1)
         ·by_cases e:u=v
          ·subst e;exact .inr h2
          ·exact .inl (.inr ⟨u,by omega,h2⟩),m20.then a4⟩
      refine⟨h22,s22,_,aa g22 rfl,_,aa (k22.bk (by omega) g20) rfl,λheq=>?_,λhne2=>nxt h22 R' (M20.nw k22) l20 (λj c _ _=>⟨.inl,λhh=>hh.elim id λht=>absurd (hty.symm.trans ht.1) hne2⟩) (.of k22)⟩
      refine Cn (M20.nw k22) hp (((s8' k1219).off m20 λz hz e=>by have:=(SB z e).2;omega).nw k22) (λz (hz:h4.next<=z) j hj e=>by have:=(r4 j hj).2.2;omega) (λj hj=>(l20 j hj).trans (ok12.1 j hj)) (by omega) (a:=v) (b:=v) (by omega) (by omega) λh23 M23 m23=>⟨rfl,nxt h23 _ M23 (λj hj=>(oq _ _ _ _ _).trans (l20 j hj)) (λj c hj hc=>?_) ((Mt.of k22).then m23)⟩
      rw[ou,l20 j hj,ok12.1 j hj]
      constructor
      ·rintro(h1 | ⟨-,h2,-⟩)
       ·exact .inl h1
       ·exact .inr ⟨hty.trans heq,h2.symm⟩
      ·rintro(h1 | ⟨-,h2⟩)
       ·exact .inl h1
       ·exact .inr ⟨rfl,h2.symm,hc⟩
     ·obtain rfl:v=n3:=by omega
      refine next h20 R' M20 (ok12.next hx l20 λj c hj hc=>?_) ((Mt.of k1219).then m20)
      rw[q20 j c hj hc]
      constructor
      ·rintro(h1 | ⟨u,h1,h2,h3⟩)
       ·exact .inl h1
       ·refine .inr (.inr ⟨rfl,?_,u,by omega,h2,h3⟩)
        simp only[Int.toNat_natCast,htb]
        exact hne
      ·rintro(h1 | ⟨h1,-⟩ | ⟨-,-,u,h1,h2,h3⟩)
       ·exact .inl h1
       ·simp at h1
       ·exact .inr ⟨u,by omega,h2,h3⟩
   ·exfalso
    rcases hxo.is with⟨h1,-⟩ | ⟨h1,-⟩
    ·exact c1 h1
    ·exact c2 h1
  ·obtain rfl:i=n:=by omega
   exact hK1 B T Bf R h12 M12 ok12 k12
end
end Eva
end
section
open Go Go.RowKit
namespace Eva
section
variable {h h':AH}{F Fa Fo:Nat->Prop}{Q:Value->AH->Prop}{A:Option Addr}{n K g o C:Nat}{N M:ab}{p:List (List Int)}{xs:List Chg}{costs:List Int}
theorem Shp.gatesL (S:Shp N M) (k:Nat):M.gatesL p k=N.gatesL p k:=by
 unfold ab.gatesL
 congr 1
 funext c
 rw[S.ins,S.outs]
theorem Shp.startsL (S:Shp N M) (k:Nat):M.startsL p k=N.startsL p k:=by
 unfold ab.startsL
 congr 1
 funext c
 rw[S.start]
theorem OvA.shp (O:OvA h Fo o N p) (S:Shp N M) (hok:M.Ok):OvA h Fo o M p:=by
 obtain⟨w,a,⟨b1,b2,b3,b4,b5⟩,⟨c1,c2,c3,c4,c5⟩,⟨d1,d2,d3,d4,d5⟩,⟨e1,e2,e3,e4,e5⟩,q1,q2,q3,q4,q5⟩:=O
 have hg:((List.range p.length).map λj=>M.gatesL p (j+1))=(List.range p.length).map λj=>N.gatesL p (j+1):=by
  congr 1;funext j;exact Shp.gatesL S _
 have hs:((List.range p.length).map λj=>M.startsL p (j+1))=(List.range p.length).map λj=>N.startsL p (j+1):=by
  congr 1;funext j;exact Shp.startsL S _
 have hf:((List.range M.na).map λa=>((M.fr a:Nat):Int))=(List.range N.na).map λa=>((N.fr a:Nat):Int):=by
  rw[S.na];congr 1;funext j;rw[S.fr]
 have ht:((List.range M.na).map λa=>((M.to a:Nat):Int))=(List.range N.na).map λa=>((N.to a:Nat):Int):=by
  rw[S.na];congr 1;funext j;rw[S.to]
 exact⟨w,a,⟨b1,b2,b3,b4,by rw[hf];exact b5⟩,⟨c1,c2,c3,c4,by rw[ht];exact c5⟩,⟨d1,d2,d3,d4,by rw[hg];exact d5⟩,⟨e1,e2,e3,e4,by rw[hs];exact e5⟩,by rw[S.size];exact q1,by rw[S.nv];exact q2,by rw[S.size];exact q3,hok,by rw[S.nv,S.na];exact q5⟩
theorem BJ (O:OvA h F o N p){k c:Nat}(hk1:1<=k) (hk:k<=p.length) (hc:c<ap p k) (hz:(N.ins p k c).length=0\/(N.outs p k c).length=0)
  (hK:∀h',Nw h h'->Q (.int .i64 (-1)) h'):WC Tryz.prog 11 [.pointer (some ⟨o,0,none⟩),.int .i64 k,.int .i64 c,.int .i64 0,.int .i64 0] h Q:=by
 obtain⟨k,rfl⟩:∃k',k=k' + 1:=⟨k - 1,by omega⟩
 have hp6:=O.hp.few
 obtain⟨b1,o1,n1,K1,b2,o2,K2,A3,K3,A4,K4,c3,hkn,l1,e2,l2,e3,e4,s3,s4⟩:=O.gate_ (k:=k) (by omega) hc
 obtain⟨ni,hni⟩:∃ni,(N.ins p (k+1) c).length=ni:=⟨_,rfl⟩
 obtain⟨no,hno⟩:∃no,(N.outs p (k+1) c).length=no:=⟨_,rfl⟩
 rw[hni]at e3 s3 hz
 rw[hno]at e4 s4 hz
 refine bU (xE O hk1 hk hc ⟨_,rfl,λ_=>?_,λh=>Bool.noConfusion h⟩)
 refine⟨_,_,rfl,_,_,_,c3,_,ah (by omega) (by omega),k,by omega,_,_,rfl,hkn,_,_,_,e2,c,rfl,_,_,rfl,hc,_,_,_,_,_,_,pc e3 e4,λh2 e7=>?_⟩
 obtain⟨h3,hs3,k3,g3,z3⟩:=ay (vs:=[.slice A3 ni K3,.slice A4 no K4]) e7 rfl (dR rfl rfl)
 have y0:ldC h3 h.next 0=some (.slice A3 ni K3):=aa g3 rfl
 have y1:ldC h3 h.next 1=some (.slice A4 no K4):=aa g3 rfl
 exact⟨h3,hs3,λh=>absurd h (by omega),λ_=>⟨_,_,_,y0,λh=>hK _ k3,λh0=>⟨λh=>absurd h (by omega),λ_=>⟨_,_,_,y1,λh=>hK _ k3,λh1=>absurd hz (by omega)⟩⟩⟩⟩
structure im (W:Nat->Prop) (h0 h:AH) (g o C:Nat) (costs:List Int) (N:ab) (p:List (List Int)):Prop where
 gr:∃Fa Ft F,GrX h Fa Ft F g N/\(∀z,Fa z\/Ft z\/F z->h0.next<=z)/\∃Fo,OvA h Fo o N p/\(∀z,Fo z->h0.next<=z/\¬Fa z/\¬Ft z)/\¬Fa C/\¬Ft C/\∀z,Fa z\/Ft z\/F z\/Fo z\/z=C->W z
 cs:Bk h C (costs.map (Value.int .i64)) 2
 cp:h0.next<=C/\C<h.next
 ok:ch N p costs
 nn:∀x∈costs,0<=x
theorem km.w {h0 h:AH}(R:km h0 h g o C costs N p):im (λz=>h0.next<=z) h0 h g o C costs N p:=by
 obtain⟨⟨Fa,Ft,F,X,lo,Fo,O,loo,n1,n2⟩,cs,cp,co,nn⟩:=R
 refine⟨⟨Fa,Ft,F,X,lo,Fo,O,loo,n1,n2,λz hz=>?_⟩,cs,cp,co,nn⟩
 rcases hz with h | h | h | h | h
 ·exact lo z (.inl h)
 ·exact lo z (.inr (.inl h))
 ·exact lo z (.inr (.inr h))
 ·exact(loo z h).1
 ·rw[h];exact cp.1
theorem im.a {W:Nat->Prop}{h0 h:AH}(R:im W h0 h g o C costs N p):km h0 h g o C costs N p:=by
 obtain⟨⟨Fa,Ft,F,X,lo,Fo,O,loo,n1,n2,-⟩,cs,cp,co,nn⟩:=R
 exact⟨⟨Fa,Ft,F,X,lo,Fo,O,loo,n1,n2⟩,cs,cp,co,nn⟩
theorem im.nw {W:Nat->Prop}{h0 h h':AH}(R:im W h0 h g o C costs N p) (a:Nw h h'):im W h0 h' g o C costs N p:=by
 obtain⟨⟨Fa,Ft,F,X,lo,Fo,O,loo,nC⟩,cs,cp,co,nn⟩:=R
 have:=a.next
 exact⟨⟨Fa,Ft,F,X.nw a,lo,Fo,O.nw a,loo,nC⟩,a.bk cp.2 cs,⟨cp.1,by omega⟩,co,nn⟩
theorem im.mono {W W':Nat->Prop}{h0 h:AH}(R:im W h0 h g o C costs N p) (hW:∀z,W z->W' z):im W' h0 h g o C costs N p:=by
 obtain⟨⟨Fa,Ft,F,X,lo,Fo,O,loo,n1,n2,n3⟩,cs,cp,co,nn⟩:=R
 exact⟨⟨Fa,Ft,F,X,lo,Fo,O,loo,n1,n2,λz hz=>hW z (n3 z hz)⟩,cs,cp,co,nn⟩
theorem im.lt {W:Nat->Prop}{h0 h:AH}(R:im W h0 h g o C costs N p):im (λz=>W z/\z<h.next) h0 h g o C costs N p:=by
 obtain⟨⟨Fa,Ft,F,X,lo,Fo,O,loo,n1,n2,n3⟩,cs,cp,co,nn⟩:=R
 refine⟨⟨_,_,_,X.lt,λz hz=>lo z ?_,λz=>Fo z/\z<h.next,O.mono λz hz hl=>⟨hz,hl⟩,λz hz=>⟨(loo z hz.1).1,λh=>(loo z hz.1).2.1 h.1,λh=>(loo z hz.1).2.2 h.1⟩,λh=>n1 h.1,λh=>n2 h.1,λz hz=>?_⟩,cs,cp,co,nn⟩
 ·rcases hz with h | h | h
  ·exact .inl h.1
  ·exact .inr (.inl h.1)
  ·exact .inr (.inr h.1)
 ·rcases hz with h | h | h | h | h
  ·exact⟨n3 z (.inl h.1),h.2⟩
  ·exact⟨n3 z (.inr (.inl h.1)),h.2⟩
  ·exact⟨n3 z (.inr (.inr (.inl h.1))),h.2⟩
  ·exact⟨n3 z (.inr (.inr (.inr (.inl h.1)))),h.2⟩
  ·exact⟨n3 z (.inr (.inr (.inr (.inr h)))),by rw[h];exact cp.2⟩
theorem im.off {W S:Nat->Prop}{h0 h h':AH}(R:im W h0 h g o C costs N p) (m:Mt S h h') (hS:∀z,W z->¬S z):im W h0 h' g o C costs N p:=by
 obtain⟨⟨Fa,Ft,F,X,lo,Fo,O,loo,n1,n2,n3⟩,cs,cp,co,nn⟩:=R
 have:=m.next
 exact⟨⟨Fa,Ft,F,X.keep (λz hz hl=>m.get z hl (hS z (n3 z (hz.elim .inl λh=>.inr (h.elim .inl λh=>.inr (.inl h)))))) m.next,lo,Fo,O.off m λz hz=>hS z (n3 z (.inr (.inr (.inr (.inl hz))))),loo,n1,n2,n3⟩,m.bk cp.2 (hS _ (n3 _ (.inr (.inr (.inr (.inr rfl)))))) cs,⟨cp.1,by omega⟩,co,nn⟩
theorem zY {W:Nat->Prop}{h0 hb:AH}(R:im W h0 hb g o C costs N p) (a:Nw hb h) (hna3:N.na<=300) (hsz:N.size p<1000000){Fl:Nat->Prop}(hs:Sz dt Fl h A n K xs) (hFl:∀z,Fl z->¬W z\/hb.next<=z)
  (hK1:bu N xs->∀C' costs' cnt h',im (λz=>(W z/\z<hb.next)\/h.next<=z) h0 h' g o C' costs' (N.doL xs) p->Mt (λz=>W z/\z<hb.next) h h'->Q (.tuple #[.slice (some ⟨C',0,none⟩) (N.size p) (cx (N.size p)),.int .i64 cnt,.nilIface]) h')
  (hK2:¬bu N xs->∀t u h',Nw h h'->Q (.tuple #[.slice none 0 0,.int .i64 0,.iface t u]) h') :
  WC Tryz.prog 32 [.pointer (some ⟨g,0,none⟩),.pointer (some ⟨o,0,none⟩),.slice (some ⟨C,0,none⟩) (N.size p) (cx (N.size p)),.slice A n K] h Q:=by
 obtain⟨⟨Fa0,Ft0,F0,X0,lo0,Fo0,O0,loo,nC1,nC2,inW⟩,cs,cp,co,nn⟩:=R
 have nC:¬Fa0 C/\¬Ft0 C:=⟨nC1,nC2⟩
 have X:=(X0.lt).nw a
 have O:=((O0.mono (Fo':=λz=>Fo0 z/\z<hb.next) λz hz hl=>⟨hz,hl⟩).nw a)
 have az:=a.next
 have cs1:=a.bk cp.2 cs
 have hp:=O.hp
 have hnp:=hp.few
 have hok:=O.ok
 have hl:=hs.len
 obtain⟨sz,hszE⟩:∃sz,N.size p=sz:=⟨_,rfl⟩
 have hcl:costs.length=sz:=by rw[<-hszE];exact co.1
 rw[hszE]at hsz hK1⊢
 refine xc (zx O ⟨_,rfl,λheq=>?_,λhne=>absurd (by rw[hszE]) hne⟩)
 refine zX X.gr O hs (λB T Bf Rm h2 M ok2 k2=>⟨_,_,_,none,rfl,λ_=>?_,λt u h=>by cases h⟩) λnB t u h2 k2=>⟨_,_,_,some (t,u),rfl,(λh=>by cases h),λt' u' e=>by cases e;exact hK2 nB t u h2 k2⟩
 have hFl':∀z,Fl z->¬(Fa0 z/\z<hb.next)/\¬(Ft0 z/\z<hb.next):=λz hz=>by
  have h1:=hFl z hz
  exact⟨λh=>h1.elim (λh2=>h2 (inW z (.inl h.1))) (λh2=>by omega),λh=>h1.elim (λh2=>h2 (inW z (.inr (.inl h.1)))) (λh2=>by omega)⟩
 refine Df (X.nw k2) (hs.nw k2) hFl' B λh3 T3=>⟨none,rfl,λ_=>⟨by omega,λh4 e4=>?_⟩,λt u h=>by cases h⟩
 obtain⟨⟨Fa3,Ft3,F3,X3,c1,c2⟩,m3⟩:=T3
 obtain⟨M1,hM1⟩:∃M1,N.doL xs=M1:=⟨_,rfl⟩
 have S:Shp N M1:=hM1 ▸ ab.doL_shp xs
 have hok1:M1.Ok:=hM1 ▸ ab.doL_ok hok xs B.ok
 rw[hM1]at X3 hK1
 have z2:=k2.next
 have z3:=m3.next
 have M3:MkA h.next h3 T p.length Bf Rm:=M.off m3 λz hz ht=>by
  have:z<hb.next:=hz.elim (λh=>h.2) λh=>h.2
  rcases ht with rfl | ⟨i,hi,rfl⟩
  ·have:=M.lo.1;omega
  ·have:=M.lo.2 i hi;omega
 have O3:OvA h3 (λz=>Fo0 z/\z<hb.next) o M1 p:=OvA.shp ((O.nw k2).off m3 λz hz ht=>ht.elim (λh=>(loo z hz.1).2.1 h.1) λh=>(loo z hz.1).2.2 h.1) S hok1
 have cs3:Bk h3 C (costs.map (Value.int .i64)) 2:=m3.bk (by omega) (λht=>ht.elim (λh=>nC.1 h.1) λh=>nC.2 h.1) (k2.bk (by omega) cs1)
 have X3':=X3.lt
 obtain⟨k4,g4,z4⟩:=aj e4
 obtain⟨C',hC'⟩:∃C',h3.next=C':=⟨_,rfl⟩
 rw[hC']at g4 z4
 rw[a9]at g4
 have g4':Bk h4 C' ((List.replicate sz (0:Int)).map (Value.int .i64)) 2:=by rw[List.map_replicate];exact g4
 rw[hC']
 have s4:Sa cI (λz=>z=C) h4 (some ⟨C,0,none⟩) sz (cx sz) costs:=(Sa.of_ints (F:=λz=>z=C) cs3 hcl rfl (by omega)).nw k4
 obtain⟨h5,y1,y2,y3,y4⟩:=zO (n:=sz) (lo:=0) (x:=0) (K:=cx sz) g4' (by simp) s4 (by omega) (λ_=>rfl)
 have e5:dF (List.replicate sz (0:Int)) costs 0=costs:=by
  unfold dF
  simp[hcl]
 rw[e5]at y2
 have k35:Nw h3 h5:=⟨by omega,λz hz=>(y4 z (by omega)).trans (k4.get z hz)⟩
 have unt:∀k c,1<=k->k<=p.length->c<ap p k->(¬∃q x,q<n/\xs[q]? = some x/\Tch N p k c x)->bo M1 p costs k c:=λk c h1 h2 h3 hno=>by
  refine bo.same S hok ?_ (co.2 k c h1 h2 h3)
  rw[<-hM1]
  refine uJ hok xs B.ok λx hx ht=>hno ?_
  obtain⟨q,hq⟩:=List.getElem?_of_mem hx
  exact⟨q,x,by have:=(List.getElem?_eq_some_iff.1 hq).1;omega,hq,ht⟩
 refine⟨_,h5,y1,λm x3 x4 h6=>∃(i:Nat) (cs:List Int),x4=i/\i<=p.length/\m=p.length - i/\cs.length=sz/\Bk h6 C' (cs.map (Value.int .i64)) 2/\(∀k c,1<=k->k<=p.length->c<ap p k->(k<=i\/¬∃q x,q<n/\xs[q]? = some x/\Tch N p k c x)->bo M1 p cs k c)/\(∀x∈cs,0<=x)/\Nw h3 h6/\C' < h6.next,p.length,⟨0,costs,rfl,Nat.zero_le _,rfl,hcl,y2,λk c h1 h2 h3 h4=>unt k c h1 h2 h3 (h4.elim (λh=>by omega) id),nn,k35,by omega⟩,?_⟩
 rintro m x3 x4 h6 ⟨i,cs,rfl,hi,rfl,l6,b6,c6,n6,k6,lt6⟩
 refine⟨λhlt=>?_,λhge=>?_⟩
 ·have hi':i<p.length:=by omega
  refine⟨i,rfl,T,0,rfl,hi',_,_,_,(M3.nw k6).at_ hi',?_⟩
  refine⟨λm x5 x6 h7=>∃(c:Nat) (cs:List Int),x6=c/\c<=ap p (i+1)/\m=ap p (i+1) - c/\cs.length=sz/\Bk h7 C' (cs.map (Value.int .i64)) 2/\(∀k c',1<=k->k<=p.length->c' < ap p k->(k<=i\/(k=i+1/\c' < c)\/¬∃q x,q<n/\xs[q]? = some x/\Tch N p k c' x)->bo M1 p cs k c')/\(∀x∈cs,0<=x)/\Nw h3 h7/\C' < h7.next,ap p (i+1),⟨0,cs,rfl,Nat.zero_le _,rfl,l6,b6,λk c' h1 h2 h3 h4=>c6 k c' h1 h2 h3 (h4.elim .inl λh4=>h4.elim (λh=>absurd h.2 (by omega)) .inr),n6,k6,lt6⟩,?_⟩
  rintro m x5 x6 h7 ⟨c,cs,rfl,hc,rfl,l7,b7,c7,n7,k7,lt7⟩
  have hmost:ap p (i+1)<=N.nv:=by
   obtain⟨row,hr⟩:∃row,p[i+1 - 1]? = some row:=⟨_,List.getElem?_eq_getElem (by omega)⟩
   have h2:=fM hr
   have h3:=cP (row:=row) (n:=(N.nv:Int)) (by omega) (λx hx=>(hp.inr _ (List.mem_of_getElem? hr) x hx).2)
   omega
  have hnv:=O.nfew.1
  have hlen:=ok2.1 i hi'
  refine⟨λhlt2=>?_,λhge2=>?_⟩
  ·have hc':c<ap p (i+1):=by rw[hlen]at hlt2;omega
   have next:∀h' cs' (x:Int),cs'.length=sz->Bk h' C' (cs'.map (Value.int .i64)) 2->(∀k c',1<=k->k<=p.length->c' < ap p k->(k<=i\/(k=i+1/\c' < c+1)\/¬∃q x,q<n/\xs[q]? = some x/\Tch N p k c' x)->bo M1 p cs' k c')->(∀x∈cs',0<=x)->Nw h3 h'->C' < h'.next->WR ((c:Int)+1) λx12=>RE (ap p (i+1) - c) λm'=>∃(c:Nat) (cs:List Int),x12=c/\c<=ap p (i+1)/\m' = ap p (i+1) - c/\cs.length=sz/\Bk h' C' (cs.map (Value.int .i64)) 2/\(∀k c',1<=k->k<=p.length->c' < ap p k->(k<=i\/(k=i+1/\c' < c)\/¬∃q x,q<n/\xs[q]? = some x/\Tch N p k c' x)->bo M1 p cs k c')/\(∀x∈cs,0<=x)/\Nw h3 h'/\C' < h'.next:=λh' cs' x a1 a2 a3 a4 a5 a6=>
    ⟨_,wrS (by omega),ap p (i+1) - (c+1),by omega,c+1,cs',rfl,by omega,rfl,a1,a2,a3,a4,a5,a6⟩
   obtain⟨b,hb⟩:∃b,(Rm i)[c]? = some b:=⟨_,List.getElem?_eq_getElem (by rw[hlen];exact hc')⟩
   have hld:ldC h7 (Bf i) (0+c)=some (.bool b):=by
    refine aa ((M3.nw k7).row i hi') ?_
    rw[Nat.zero_add,List.getElem?_map,hb];rfl
   refine⟨c,rfl,Bf i,0,rfl,by rw[hlen];exact hc',b,hld,λhbt=>?_,λhbf=>?_⟩
   ·have w1:IntKind.i64.wrap ((i:Int)+1)=((i+1:Nat):Int):=wrS (by omega)
    have s7:Sa cI (λz=>z=C') h7 (some ⟨C',0,none⟩) sz (cx sz) cs:=Sa.of_ints (F:=λz=>z=C') b7 l7 rfl lt7
    have G7:=(X3'.nw k7).gr
    have O7:=O3.nw k7
    have hszM:M1.size p=sz:=by rw[S.size];exact hszE
    have naM:M1.na<=300:=by rw[S.na];exact hna3
    refine⟨_,rfl,_,w1,Ea G7 naM O7 (k:=i+1) (by omega) (by omega) hc' s7 (by omega) (by omega) n7 (λh2 d hd=>c7 (i+1 - 1) d (by omega) (by omega) hd (.inl (by omega))) λA5 n5 K5 l h8 s8 hone hlnn k8=>⟨_,_,_,rfl,_,w1,?_⟩⟩
    have O8:=O7.nw k8
    have b8:=k8.bk lt7 b7
    have z8:=k8.next
    by_cases hz:(M1.ins p (i+1) c).length=0\/(M1.outs p (i+1) c).length=0
    ·refine BJ O8 (by omega) (by omega) hc' hz λh9 k9=>⟨_,rfl,λh=>absurd h (by omega),λ_=>next h9 cs (x5+1) l7 (k9.bk (by omega) b8) (λk c' h1 h2 h3 h4=>?_) n7 ((k7.trans k8).trans k9) (by have:=k9.next;omega)⟩
     rcases h4 with h4 | ⟨rfl,h4⟩ | h4
     ·exact c7 k c' h1 h2 h3 (.inl h4)
     ·by_cases e:c' = c
      ·subst e
       intro i2 j2 a2 b2 g1 g2
       have h5:=(List.getElem?_eq_some_iff.1 g1).1
       have h6:=(List.getElem?_eq_some_iff.1 g2).1
       omega
      ·exact c7 _ c' h1 h2 h3 (.inr (.inl ⟨rfl,by omega⟩))
     ·exact c7 k c' h1 h2 h3 (.inr (.inr h4))
    ·refine oAt O8 (by omega) (by omega) hc' (i:=0) (j:=0) (by omega) (by omega) λh9 k9=>⟨_,rfl,λ_=>?_,λh=>absurd h (by omega)⟩
     have hse:=ab.start_end (N:=M1) (k:=i+1) (by omega) (by omega) hc'
     obtain⟨st,hst⟩:∃st,M1.start p (i+1) c=st:=⟨_,rfl⟩
     have hn5:n5=M1.sz p (i+1) c:=by rw[<-s8.len];exact hone.1
     rw[hst,hszM]at hse
     obtain⟨xx,KK,hxx,hsl⟩:=wu (P:=Tryz.prog) (C:=C') (n:=sz) (lo:=st) zN (by omega)
     have e0:M1.start p (i+1) c+(0*(M1.outs p (i+1) c).length+0)=st:=by rw[hst];omega
     have b9:=k9.bk (by omega) b8
     obtain⟨h10,q1,q2,q3,q4⟩:=zO (K:=KK) b9 l7 (s8.nw k9) (lo:=st) (x:=xx) (by omega) hxx
     have z9:=k9.next
     refine⟨λ_=>⟨st,by rw[e0],_,_,_,hsl,_,h10,q1,next h10 (dF cs l st) (x5+1) ?_ q2 (λk c' h1 h2 h3 h4=>?_) (tA n7 hlnn) ⟨by have:=k7.next;omega,λz hz=>(q4 z (by omega)).trans (((k7.trans k8).trans k9).get z hz)⟩ (by omega)⟩,λh=>absurd h (by rw[e0];omega)⟩
     ·rw[pL (by rw[s8.len];omega)];exact l7
     ·by_cases e:i+1=k/\c=c'
      ·obtain⟨rfl,rfl⟩:=e
       rw[<-hst]
       exact bo.put (by omega) (by omega) (by omega) hc' hone
      ·rw[<-hst]
       refine bo.putO (by omega) (by omega) (by omega) hc' hone.1 h1 h2 h3 e (c7 k c' h1 h2 h3 ?_)
       rcases h4 with h4 | h4 | h4
       ·exact .inl h4
       ·exact .inr (.inl ⟨h4.1,by omega⟩)
       ·exact .inr (.inr h4)
   ·subst hbf
    refine next h7 cs x5 l7 b7 (λk c' h1 h2 h3 h4=>c7 k c' h1 h2 h3 ?_) n7 k7 lt7
    rcases h4 with h4 | ⟨rfl,h4⟩ | h4
    ·exact .inl h4
    ·by_cases e:c' = c
     ·subst e
      refine .inr (.inr λ⟨q,x,h5,h6,h7⟩=>?_)
      have:=(ok2.2 i c' hi').2 ⟨hc',q,x,h5,h6,h7⟩
      rw[hb]at this
      cases this
     ·exact .inr (.inl ⟨rfl,by omega⟩)
    ·exact .inr (.inr h4)
  ·have hcm:c=ap p (i+1):=by rw[hlen]at hge2;omega
   refine⟨_,wrS (by omega),p.length - (i+1),by omega,i+1,cs,rfl,by omega,rfl,l7,b7,λk c' h1 h2 h3 h4=>c7 k c' h1 h2 h3 ?_,n7,k7,lt7⟩
   rcases h4 with h4 | h4
   ·by_cases e:k=i+1
    ·subst e;exact .inr (.inl ⟨rfl,by omega⟩)
    ·exact .inl (by omega)
   ·exact .inr (.inr h4)
 ·obtain rfl:i=p.length:=by omega
  have z6:=k6.next
  refine hK1 B C' cs x3 h6 ⟨⟨_,_,_,X3'.nw k6,λz hz=>?_,λz=>Fo0 z/\z<hb.next,O3.nw k6,λz hz=>⟨(loo z hz.1).1,λhf=>?_,λhf=>?_⟩,λhf=>by have:=hf.2;omega,λhf=>by have:=hf.2;omega,λz hz=>?_⟩,b6,⟨by omega,lt6⟩,⟨by rw[S.size,hszE];exact l6,λk c h1 h2 h3=>c6 k c h1 h2 h3 (.inl h2)⟩,n6⟩ ?_
  ·rcases hz with hz | hz | hz
   ·rcases c1 z (.inl hz.1) with h | h | h
    ·exact lo0 z (.inl h.1)
    ·exact lo0 z (.inr (.inl h.1))
    ·omega
   ·rcases c1 z (.inr hz.1) with h | h | h
    ·exact lo0 z (.inl h.1)
    ·exact lo0 z (.inr (.inl h.1))
    ·omega
   ·exact lo0 z (.inr (.inr (c2 z hz.1).1))
  ·rcases c1 z (.inl hf.1) with h | h | h
   ·exact(loo z hz.1).2.1 h.1
   ·exact(loo z hz.1).2.2 h.1
   ·have:=hz.2;omega
  ·rcases c1 z (.inr hf.1) with h | h | h
   ·exact(loo z hz.1).2.1 h.1
   ·exact(loo z hz.1).2.2 h.1
   ·have:=hz.2;omega
  ·have hz':Fa3 z\/Ft3 z->(W z/\z<hb.next)\/h.next<=z:=λhz=>by
    rcases c1 z hz with h | h | h
    ·exact .inl ⟨inW z (.inl h.1),h.2⟩
    ·exact .inl ⟨inW z (.inr (.inl h.1)),h.2⟩
    ·exact .inr (by omega)
   rcases hz with h | h | h | h | h
   ·exact hz' (.inl h.1)
   ·exact hz' (.inr h.1)
   ·exact .inl ⟨inW z (.inr (.inr (.inl (c2 z h.1).1))),(c2 z h.1).2⟩
   ·exact .inl ⟨inW z (.inr (.inr (.inr (.inl h.1)))),h.2⟩
   ·exact .inr (by omega)
  ·refine((Mt.of k2).trans m3 λz hz hl=>hz) |>.nw k6 |>.mono λz hz _=>?_
   rcases hz with h | h
   ·exact⟨inW z (.inl h.1),h.2⟩
   ·exact⟨inW z (.inr (.inl h.1)),h.2⟩
theorem BK {h0 hb:AH}(R:km h0 hb g o C costs N p) (a:Nw hb h) (hna3:N.na<=300) (hsz:N.size p<1000000){Fl:Nat->Prop}(hs:Sz dt Fl h A n K xs) (hFl:∀z,Fl z->z<h0.next\/hb.next<=z)
  (hK1:bu N xs->∀C' costs' cnt h',km h0 h' g o C' costs' (N.doL xs) p->Mt (λz=>h0.next<=z/\z<hb.next) h h'->Q (.tuple #[.slice (some ⟨C',0,none⟩) (N.size p) (cx (N.size p)),.int .i64 cnt,.nilIface]) h')
  (hK2:¬bu N xs->∀t u h',Nw h h'->Q (.tuple #[.slice none 0 0,.int .i64 0,.iface t u]) h') :
  WC Tryz.prog 32 [.pointer (some ⟨g,0,none⟩),.pointer (some ⟨o,0,none⟩),.slice (some ⟨C,0,none⟩) (N.size p) (cx (N.size p)),.slice A n K] h Q:=by
 exact zY R.w a hna3 hsz hs (λz hz=>(hFl z hz).imp (λh=>by omega) id) (λB C' costs' cnt h' R' m=>hK1 B C' costs' cnt h' R'.a (m.mono λz hz _=>hz)) hK2
end
end Eva
end
section
open Go Go.RowKit
open Classical in
noncomputable def ab.step (N:ab) (l:List Chg):ab:=if bu N l then N.doL l else N
noncomputable def ab.behind (N:ab) (ls:List (List Chg)):ab:=ls.foldl ab.step N
theorem ab.step_shp (N:ab) (l:List Chg):Shp N (N.step l):=by
 unfold ab.step
 split
 ·exact ab.doL_shp l
 ·exact Shp.refl N
theorem ab.step_ok {N:ab}(hok:N.Ok) (l:List Chg):(N.step l).Ok:=by
 unfold ab.step
 split
 ·rename_i B;exact ab.doL_ok hok l B.ok
 ·exact hok
theorem ab.behind_snoc (N:ab) (ls:List (List Chg)) (l:List Chg):N.behind (ls ++ [l])=(N.behind ls).step l:=by simp[ab.behind,List.foldl_append]
theorem ab.behind_shp:∀(ls:List (List Chg)) (N:ab),Shp N (N.behind ls)
 | [],N=>Shp.refl N
 | l :: ls,N=>(ab.step_shp N l).trans (ab.behind_shp ls (N.step l))
theorem ab.behind_ok:∀(ls:List (List Chg)){N:ab},N.Ok->(N.behind ls).Ok
 | [],N,h=>h
 | l :: ls,N,h=>ab.behind_ok ls (ab.step_ok h l)
namespace Eva
theorem tyC:tyB Tryz.prog 185 5 40=true:=by kernel_rfl
section
variable {h h':AH}{F G:Nat->Prop}{Q:Value->AH->Prop}{A Av Aa At Ap Al:Option Addr}{n K nv Kv na Ka nt Kt np Kp nl Kl g o C:Nat}{N:ab}{p:List (List Int)}{xs:List Chg}{ls:List (List Chg)}{costs:List Int}
theorem km.lower {h0 h2:AH}(R:km h2 h' g o C costs N p) (hn:h0.next<=h2.next):km h0 h' g o C costs N p:=by
 obtain⟨⟨Fa,Ft,F',X,lo,Fo,O,lo2,nC⟩,cs,cp,co,nn⟩:=R
 exact⟨⟨Fa,Ft,F',X,λz hz=>by have:=lo z hz;omega,Fo,O,λz hz=>⟨by have:=(lo2 z hz).1;omega,(lo2 z hz).2⟩,nC⟩,cs,⟨by omega,cp.2⟩,co,nn⟩
theorem Ej (hs:Sz dt F h A n K xs) (hn:n<=1000) (hK:∀A' K' h',Sa dt (λz=>h.next<=z) h' A' n K' xs->Nw h h'->Q (.slice A' n K') h') :
  WC Tryz.prog 33 [.slice A n K] h Q:=by
 have hl:=hs.len
 refine uC ⟨λm A' n' K' x h1=>∃i:Nat,x=i/\i<=n/\n' = i/\m=n - i/\al dt h1 (af A') 185 A' i K' (xs.take i)/\(∀z,af A' z->h.next<=z)/\Nw h h1,n,⟨0,rfl,Nat.zero_le _,rfl,rfl,al.nil _ _ _ _,λz hz=>hz.elim,Nw.refl _⟩,?_⟩
 rintro m A' n' K' x h1 ⟨i,rfl,hi,rfl,rfl,o1,lo1,k1⟩
 refine⟨λhlt=>?_,λhge=>?_⟩
 ·obtain⟨b,of,x,hA,-,hlb,hx,hc,-⟩:=(hs.nw k1).chg (k:=n') (by omega)
  have c:=λj u (hj:(du x)[j]? = some u)=>hc j u hj
  refine⟨n',rfl,b,of,hA,by omega,_,c 0 _ rfl,by omega,_,c 1 _ rfl,by omega,_,c 2 _ rfl,by omega,_,c 3 _ rfl,by omega,_,c 4 _ rfl,λh2 e2=>?_⟩
  obtain⟨k2,g2,z2⟩:=aj e2
  have hz:Sz dt (λz=>z=h1.next) h2 (some ⟨h1.next,0,none⟩) 1 2 [x]:=Sz.one (cells:=du x) g2 rfl (by omega) rfl rfl
  obtain⟨A3,K3,h3,y1,y2,y3,y4⟩:=aX zU tyC (o1.nw k2) hz (by omega) (by omega)
  have z1:=k1.next
  refine⟨A3,_,K3,h3,y1,_,wrS (by omega),n - (n' + 1),by omega,n' + 1,rfl,by omega,rfl,rfl,?_,λz hz=>?_,?_⟩
  ·rw[List.take_add_one,hx];exact y2
  ·rcases y4 z hz with h | h
   ·exact lo1 z h
   ·omega
  ·exact y3.is_nw (k1.trans k2) λz hz=>lo1 z hz
 ·obtain rfl:n' = n:=by omega
  have e:xs.take n' = xs:=List.take_of_length_le (by omega)
  rw[e]at o1
  exact hK _ _ _ (o1.sa.mono λz hz _=>lo1 z hz) k1
theorem zZ {h0 hb:AH}{sz:Nat}(hE:N.size p=sz) (R:km h0 hb g o C costs N p) (a:Nw hb h) (hna3:N.na<=300) (hsz:sz<1000000){Fl:Nat->Prop}(hs:Sz dt Fl h A n K xs) (hFl:∀z,Fl z->z<h0.next\/hb.next<=z)
  (hK1:∀C' costs' cnt h',bu N xs->km h0 h' g o C' costs' (N.step xs) p->Mt (λz=>h0.next<=z/\z<hb.next) h h'->Q (.tuple #[.slice (some ⟨C',0,none⟩) sz (cx sz),.int .i64 cnt,.nilIface]) h')
  (hK2:∀t u h',¬bu N xs->km h0 h' g o C costs (N.step xs) p->Nw h h'->Q (.tuple #[.slice none 0 0,.int .i64 0,.iface t u]) h') :
  WC Tryz.prog 32 [.pointer (some ⟨g,0,none⟩),.pointer (some ⟨o,0,none⟩),.slice (some ⟨C,0,none⟩) sz (cx sz),.slice A n K] h Q:=by
 subst hE
 refine BK R a hna3 hsz hs hFl (λB C' costs' cnt h' R' m=>hK1 C' costs' cnt h' B ?_ m) λnB t u h' k=>hK2 t u h' nB ?_ k
 ·unfold ab.step
  rw[if_pos B];exact R'
 ·unfold ab.step
  rw[if_neg nB]
  obtain⟨⟨Fa,Ft,F',X,lo,Fo,O,lo2,nC⟩,cs,cp,co,nn⟩:=R
  have k':=a.trans k
  have:=k'.next
  exact⟨⟨Fa,Ft,F',X.nw k',lo,Fo,O.nw k',lo2,nC⟩,k'.bk cp.2 cs,⟨cp.1,by omega⟩,co,nn⟩
theorem Dg (Z:cz h F Av nv Kv Aa na Ka At nt Kt N) (hf:nY N) (ok:N.Ok) (hna:0<na) (hs:Sz (Rc.sliceZ cI) G h Ap np Kp p) (hp:ax N.nv p){H:Nat->Prop}(hl:Sz (Rc.sliceZ dt) H h Al nl Kl ls) (hl6:nl<=1000) (hl3:∀l∈ls,l.length<=300)
  (hK:∀g o C costs h',km h h' g o C costs (N.behind ls) p->Nw h h'->Q (.tuple #[.pointer (some ⟨g,0,none⟩),.pointer (some ⟨o,0,none⟩),.slice (some ⟨C,0,none⟩) (N.size p) (cx (N.size p)),.bool true]) h') :
  WC Tryz.prog 9 [.agg #[.slice Av nv Kv,.slice Aa na Ka,.slice At nt Kt],.agg #[.slice Ap np Kp],.slice Al nl Kl] h Q:=by
 have hll:=hl.len
 have hsz:N.size p<1000000:=kj hf.2.1 hp.few
 refine tQ λh1 e1 h2 e2=>?_
 obtain⟨k1,g1,z1⟩:=aj e1
 obtain⟨k2,g2,z2⟩:=aj e2
 have k12:=k1.trans k2
 have z12:=k12.next
 have g12:=k2.bk (by omega) g1
 refine⟨_,_,_,_,_,_,_,_,_,aG (aa g12 rfl) (aa g12 rfl) (aa g12 rfl),_,_,_,dL (aa g2 rfl),zT (Z.nw k12) hf ok hna (hs.nw k12) hp λg o C costs h3 R k3=>⟨_,_,_,_,_,_,rfl,λ_=>?_,λh=>Bool.noConfusion h⟩⟩
 refine⟨λm A n K x h4=>∃(i C:Nat) (costs:List Int),A=some ⟨C,0,none⟩/\n=N.size p/\K=cx (N.size p)/\x=i/\i<=nl/\m=nl - i/\km h2 h4 g o C costs (N.behind (ls.take i)) p/\Nw h2 h4,nl,⟨0,C,costs,rfl,rfl,rfl,rfl,Nat.zero_le _,rfl,R,k3⟩,?_⟩
 rintro m A n K x h4 ⟨i,C,costs,rfl,rfl,rfl,rfl,hi,rfl,R4,k4⟩
 have z4:=k4.next
 refine⟨λhlt=>?_,λhge=>?_⟩
 ·have hi':i<nl:=by omega
  obtain⟨b,of,A',n',K',l,hA,-,-,hx,l0,sl⟩:=(hl.nw (k12.trans k4)).rowZ hi'
  have hl300:=hl3 l (List.mem_of_getElem? hx)
  have hn':=sl.len
  have S:=ab.behind_shp (ls.take i) N
  have htk:N.behind (ls.take (i+1))=(N.behind (ls.take i)).step l:=by rw[List.take_add_one,hx];exact ab.behind_snoc _ _ _
  refine⟨i,rfl,b,of,hA,hi',_,_,_,l0,Ej sl (by omega) λA5 K5 h5 s5 k5=>⟨_,_,_,rfl,?_⟩⟩
  refine zZ (by rw[S.size]) R4 k5 (by rw[S.na];exact hf.2.1) hsz s5.z (λz hz=>.inr hz) (λC' costs' cnt h6 B R6 m6=>⟨_,_,_,_,none,rfl,λ_=>⟨_,wrS (by omega),nl - (i+1),by omega,i+1,C',costs',rfl,rfl,rfl,rfl,by omega,rfl,by rw[htk];exact R6,m6.is_nw (k4.trans k5) λz hz=>hz.1⟩,λt u h=>by cases h⟩) λt u h6 nB R6 k6=>⟨_,_,_,_,some (t,u),rfl,(λh=>by cases h),λt' u' e=>⟨_,wrS (by omega),nl - (i+1),by omega,i+1,C,costs,rfl,rfl,rfl,rfl,by omega,rfl,by rw[htk];exact R6,(k4.trans k5).trans k6⟩⟩
 ·obtain rfl:i=nl:=by omega
  have e:ls.take i=ls:=List.take_of_length_le (by omega)
  rw[e]at R4
  exact hK g o C costs h4 (R4.lower (by omega)) (k12.trans k4)
end
end Eva
end
section
open Go Go.RowKit
namespace Eva
section
variable {h h':AH}{F G:Nat->Prop}{Q:Value->AH->Prop}{A:Option Addr}{n K:Nat}{xs:List Int}
theorem tG (m:Nat) (A:Option Addr) (n K:Nat):jL (m+1) (.slice A n K):=by
 cases A with
 | none=>trivial
 | some a=>rfl
theorem uW (x:Int) (hK:Q (.int .i64 (dg x)) h):WC Tryz.prog 76 [.int .i64 x] h Q:=by
 unfold dg at hK
 refine sQ ⟨λh0=>?_,λh0=>⟨λh1=>?_,λh1=>?_⟩⟩
 ·rwa [if_pos h0]at hK
 ·rwa [if_neg h0,if_pos h1]at hK
 ·rwa [if_neg h0,if_neg h1]at hK
theorem z0 (a b:Int) (hK:Q (.int .i64 (cM a b)) h):WC Tryz.prog 30 [.int .i64 a,.int .i64 b] h Q:=by
 have h1:=fH a
 have h2:=fH b
 exact uD (uW a ⟨_,rfl,uW b ⟨_,rfl,_,ah (by omega) (by omega),uW _ ⟨_,rfl,hK⟩⟩⟩)
end
end Eva
end
section
open Go Go.RowKit
namespace Eva
def Rc.raw:Rc (Int×Int×Option Addr×Nat×Nat) where
 size:=3
 rel:=λ_ _ cs x=>cs = [.int .i64 x.1,.int .i64 x.2.1,.slice x.2.2.1 x.2.2.2.1 x.2.2.2.2]
 len:=λh=>by rw[h];rfl
 flat:=λh u hu=>by rw[h]at hu;simp at hu;rcases hu with rfl | rfl | rfl <;>rfl
 keep:=λ_ _ h=>h
 mono:=λ_ h=>h
theorem Ab:nQ Rc.raw:=λh=>h
def tbL (ts:List Tab) (k:Nat):Tab:=(ts[k]?).getD (0,0,[])
theorem rC {ts:List Tab}{k:Nat}{t:Tab}(h:ts[k]? = some t):tbL ts k=t:=by unfold tbL;rw[h];rfl
def jz (ts:List Tab) (R:Nat->Option Addr) (K:Nat->Nat) (n:Nat):List (Int×Int×Option Addr×Nat×Nat):=(List.range n).map λk=>((tbL ts k).1,(tbL ts k).2.1,R k,(tbL ts k).2.2.length,K k)
theorem tH {ts:List Tab}{R:Nat->Option Addr}{K:Nat->Nat}{n k:Nat}(hk:k<n):(jz ts R K n)[k]? = some ((tbL ts k).1,(tbL ts k).2.1,R k,(tbL ts k).2.2.length,K k):=by
 unfold jz
 rw[List.getElem?_map,List.getElem?_range hk];rfl
theorem ow {ts ts':List Tab}{R R':Nat->Option Addr}{K K':Nat->Nat}{n:Nat}(h:∀k,k<n->((tbL ts k).1,(tbL ts k).2.1,R k,(tbL ts k).2.2.length,K k)=((tbL ts' k).1,(tbL ts' k).2.1,R' k,(tbL ts' k).2.2.length,K' k)):jz ts R K n=jz ts' R' K' n:=by
 unfold jz
 exact List.map_congr_left λk hk=>h k (List.mem_range.1 hk)
structure eB (h:AH) (W:Nat->Prop) (A:Option Addr) (n K:Nat) (ts:List Tab):Prop where
 len:ts.length=n
 ex:∃(R:Nat->Option Addr) (K':Nat->Nat),al Rc.raw h (af A) 121 A n K (jz ts R K' n)/\(∀k,k<n->al cI h (af (R k)) 2 (R k) (tbL ts k).2.2.length (K' k) (tbL ts k).2.2)/\(∀k z,k<n->af (R k) z->W z/\¬af A z)/\(∀k k' z,k<n->k' < n->af (R k) z->af (R k') z->k=k')
 lo:∀z,af A z->W z
theorem al.setI {h:AH}{D:Nat->Prop}{e:TypeId}{g n K i:Nat}{xs:List Int}(o:al cI h D e (some ⟨g,0,none⟩) n K xs) (hi:i<n) (c:Int):∃h2,stC h g (0+i) [.int .i64 c]=some h2/\al cI h2 D e (some ⟨g,0,none⟩) n K (xs.set i c)/\h2.next=h.next/\∀b,b≠g->h2.get b=h.get b:=by
 obtain⟨hl,o⟩:=o
 rcases o with⟨h0,_⟩ | ⟨g',cells,hA,h1,h2,h3,h4,h5,h6,h7⟩
 ·cases h0
 ·injection hA with hA
  injection hA with hA
  subst hA
  have h4':cells.length=n:=by rw[h4];exact Nat.mul_one n
  obtain⟨hh,q1,q2,q3,q4⟩:=aA (v:=.int .i64 c) h3 (o:=0+i) (by omega) rfl
  refine⟨hh,q1,⟨by simp[hl],.inr ⟨g,_,rfl,h1,by omega,q2,by rw[List.length_set];exact h4,h5,λu hu=>?_,λk x hx=>?_⟩⟩,q3,q4⟩
  ·rcases List.mem_or_eq_of_mem_set hu with hu | rfl
   ·exact h6 u hu
   ·rfl
  ·show((cells.set (0+i) (.int .i64 c)).drop (k*1)).take 1 = [.int .i64 x]
   rw[Nat.mul_one,Nat.zero_add]
   refine cR ?_
   rw[List.getElem?_set]at hx⊢
   by_cases e:i=k
   ·subst e
    rw[if_pos rfl,if_pos (by omega)]at hx
    rw[if_pos rfl,if_pos (by omega),<-Option.some.inj hx]
   ·rw[if_neg e]at hx
    rw[if_neg e]
    have hr:(cells.drop (k*1)).take 1 = [.int .i64 x]:=h7 k x hx
    rw[Nat.mul_one]at hr
    have:=congrArg (λl=>l[0]?) hr
    simpa using this
theorem al.setW {h:AH}{D:Nat->Prop}{e:TypeId}{g n K k:Nat}{xs:List Tri}{x:Tri}(o:al aJ h D e (some ⟨g,0,none⟩) n K xs) (hk:xs[k]? = some x) (c:Int):∃h2,stC h g (0+k*3+2) [.int .i64 c]=some h2/\al aJ h2 D e (some ⟨g,0,none⟩) n K (xs.set k (x.1,x.2.1,c))/\h2.next=h.next/\∀b,b≠g->h2.get b=h.get b:=by
 have hkn:k<n:=by rw[<-o.1];exact(List.getElem?_eq_some_iff.1 hk).1
 obtain⟨gA,f,hA,hD,hlt,hB,hf,hK2,hfl,hrel⟩:=o.elems (by omega) (by decide)
 injection hA with hA
 injection hA with hA
 subst hA
 obtain⟨h2,s2,B2,z2,o2⟩:=rr hB hf (k:=k) hkn (j:=2) (by decide) (x:=.int .i64 c) rfl
 refine⟨h2,s2,al.of_elems (by simp[o.1]) hD (by omega) B2 (λj=>?_) hK2 λj y hy=>?_,z2,o2⟩
 ·unfold upd
  split
  ·simp[hf]
  ·exact hf j
 ·show aJ.rel _ h2 (upd f k ((f k).set 2 (.int .i64 c)) j) y
  rw[List.getElem?_set]at hy
  unfold upd
  by_cases e:k=j
  ·subst e
   rw[if_pos rfl,if_pos (by rw[o.1];exact hkn)]at hy
   obtain rfl:=Option.some.inj hy
   have hfa:f k = [.int .i64 x.1,.int .i64 x.2.1,.int .i64 x.2.2]:=hrel k _ hk
   rw[if_pos rfl,hfa]
   rfl
  ·rw[if_neg e]at hy
   rw[if_neg (λh=>e h.symm)]
   exact hrel j y hy
section
variable {h h':AH}{W W':Nat->Prop}{A:Option Addr}{n K:Nat}{ts:List Tab}
theorem eB.nil (h:AH) (W:Nat->Prop):eB h W none 0 0 []:=⟨rfl,⟨λ_=>none,λ_=>0,al.nil _ _ _ _,λk hk=>absurd hk (Nat.not_lt_zero _),λk z hk=>absurd hk (Nat.not_lt_zero _),λk k' z hk=>absurd hk (Nat.not_lt_zero _)⟩,λz hz=>hz.elim⟩
theorem eB.off (o:eB h W A n K ts){S:Nat->Prop}(m:Mt S h h') (hS:∀z,W z->z<h.next->¬S z):eB h' W A n K ts:=by
 obtain⟨l,⟨R,K',h1,h2,h3,h4⟩,h5⟩:=o
 exact⟨l,⟨R,K',h1.off m λz hz hlt=>hS z (h5 z hz) hlt,λk hk=>(h2 k hk).off m λz hz hlt=>hS z (h3 k z hk hz).1 hlt,h3,h4⟩,h5⟩
theorem eB.nw (o:eB h W A n K ts) (a:Nw h h'):eB h' W A n K ts:=o.off (S:=λ_=>False) (.of a) λ_ _ _ h=>h
theorem eB.lt (o:eB h W A n K ts):eB h (λz=>W z/\z<h.next) A n K ts:=by
 obtain⟨l,⟨R,K',h1,h2,h3,h4⟩,h5⟩:=o
 exact⟨l,⟨R,K',h1,h2,λk z hk hz=>⟨⟨(h3 k z hk hz).1,(h2 k hk).own hz⟩,(h3 k z hk hz).2⟩,h4⟩,λz hz=>⟨h5 z hz,h1.own hz⟩⟩
theorem eB.mono (o:eB h W A n K ts) (hW:∀z,W z->W' z):eB h W' A n K ts:=by
 obtain⟨l,⟨R,K',h1,h2,h3,h4⟩,h5⟩:=o
 exact⟨l,⟨R,K',h1,h2,λk z hk hz=>⟨hW z (h3 k z hk hz).1,(h3 k z hk hz).2⟩,h4⟩,λz hz=>hW z (h5 z hz)⟩
theorem eB.sz (o:eB h W A n K ts):Sz Rc.tableZ W h A n K ts:=by
 obtain⟨l,⟨R,K',h1,h2,h3,h4⟩,h5⟩:=o
 refine⟨l,λhn=>?_⟩
 obtain⟨b,o',rfl,hF,hb,hx⟩:=h1.sa.at_ hn
 refine⟨b,o',rfl,h5 b hF,hb,λk t hk=>?_⟩
 have hkn:k<n:=by rw[<-l];exact(List.getElem?_eq_some_iff.1 hk).1
 obtain⟨cs,hc,hr⟩:=hx k _ (tH hkn)
 have ht:=rC hk
 rw[ht]at hr
 have o2:=h2 k hkn
 rw[ht]at o2
 exact⟨cs,hc,⟨_,_,_,hr,(o2.sa.mono λz hz _=>(h3 k z hkn hz).1).z⟩⟩
theorem eB.st (o:eB h W A n K ts){k i:Nat}{t:Tab}(hk:ts[k]? = some t) (hi:i<t.2.2.length) (c:Int):∃(g:Nat) (K1 gr:Nat),A=some ⟨g,0,none⟩/\ldN h g (0+k*3) 3=some [.int .i64 t.1,.int .i64 t.2.1,.slice (some ⟨gr,0,none⟩) t.2.2.length K1]/\W gr/\gr<h.next/\
  ∀h1,Nw h h1->∃h2,stC h1 gr (0+i) [.int .i64 c]=some h2/\eB h2 W A n K (ts.set k (t.1,t.2.1,t.2.2.set i c))/\h2.next=h1.next/\∀b,b≠gr->h2.get b=h1.get b:=by
 obtain⟨l,⟨R,K',h1,h2,h3,h4⟩,h5⟩:=o
 have hkn:k<n:=by rw[<-l];exact(List.getElem?_eq_some_iff.1 hk).1
 have ht:=rC hk
 have o2:=h2 k hkn
 rw[ht]at o2
 obtain⟨b,o',x,cs,hA,hF,hb,hx,hc,hr⟩:=h1.sa.get hkn
 obtain⟨hl1,h1'⟩:=id h1
 rcases h1' with⟨-,hn0,-⟩ | ⟨g,cells,hg,-⟩
 ·omega
 ·rw[hg]at hA
  injection hA with hA
  injection hA with hA hA2
  subst hA hA2
  obtain⟨hl2,o2'⟩:=id o2
  rcases o2' with⟨-,hn0,-⟩ | ⟨gr,cells2,hgr,-⟩
  ·omega
  ·obtain rfl:x=_:=Option.some.inj (hx.symm.trans (tH hkn))
   rw[ht]at hr
   have hr':cs = [.int .i64 t.1,.int .i64 t.2.1,.slice (R k) t.2.2.length (K' k)]:=hr
   rw[hgr]at hr'
   have hown:af (R k) gr:=by rw[hgr];rfl
   have c0:=hc 0 _ (by rw[hr'];rfl)
   have c1:=hc 1 _ (by rw[hr'];rfl)
   have c2:=hc 2 _ (by rw[hr'];rfl)
   refine⟨g,K' k,gr,hg,aG (by simpa[Rc.raw]using c0) (by simpa[Rc.raw,Nat.add_assoc]using c1) (by simpa[Rc.raw,Nat.add_assoc]using c2),(h3 k gr hkn hown).1,o2.own hown,λh1a a=>?_⟩
   have o3:=o2.nw a
   rw[hgr]at o3
   obtain⟨h2a,s2,o4,z2,q2⟩:=al.setI o3 hi c
   have m:Mt (λz=>z=gr) h1a h2a:=⟨by omega,λz _ hn=>q2 z hn⟩
   refine⟨h2a,s2,⟨by rw[List.length_set];exact l,⟨R,K',?_,λj hj=>?_,h3,h4⟩,h5⟩,z2,q2⟩
   ·have e:jz ts R K' n=jz (ts.set k (t.1,t.2.1,t.2.2.set i c)) R K' n:=ow λj hj=>by
     unfold tbL
     rw[List.getElem?_set]
     by_cases e:k=j
     ·subst e
      rw[if_pos rfl,if_pos (by omega),hk]
      simp
     ·rw[if_neg e]
    rw[<-e]
    exact(h1.nw a).off m λz hz _ e=>(h3 k gr hkn hown).2 (e ▸ hz)
   ·by_cases e:k=j
    ·subst e
     have e1:tbL (ts.set k (t.1,t.2.1,t.2.2.set i c)) k=(t.1,t.2.1,t.2.2.set i c):=rC (by rw[List.getElem?_set,if_pos rfl,if_pos (by omega)])
     rw[e1,hgr]
     simp only[List.length_set]
     exact o4
    ·have e1:tbL (ts.set k (t.1,t.2.1,t.2.2.set i c)) j=tbL ts j:=by unfold tbL;rw[List.getElem?_set,if_neg e]
     rw[e1]
     exact((h2 j hj).nw a).off m λz hz _ e'=>e (h4 k j gr hkn hj hown (e' ▸ hz))
end
section
variable {h h':AH}{F G:Nat->Prop}{Q:Value->AH->Prop}{A Av Aa At Ap:Option Addr}{n K nv Kv na Ka nt Kt np Kp:Nat}{N:ab}{p:List (List Int)}
theorem Dh (Z0:cz h F Av nv Kv Aa na Ka At nt Kt N) (hf:nY N)
  (hK:∀A1 K1 A2 K2 A3 K3 h',al aJ h' (af A1) 123 A1 nv K1 N.vs->al aJ h' (af A2) 44 A2 na K2 N.xa->eB h' (λz=>h.next<=z/\¬af A1 z/\¬af A2 z/\z<h'.next) A3 nt K3 N.ts->(∀z,af A1 z->h.next<=z/\¬af A2 z)->(∀z,af A2 z->h.next<=z)->Nw h h'->Q (.agg #[.slice A1 nv K1,.slice A2 na K2,.slice A3 nt K3]) h') :
  WC Tryz.prog 71 [.agg #[.slice Av nv Kv,.slice Aa na Ka,.slice At nt Kt]] h Q:=by
 have Z:=Z0.old
 have lv:=Z.vs.len
 have la:=Z.xa.len
 have lt:=Z.ts.len
 obtain⟨f1,f2,f3,f4⟩:=hf
 refine oC λh1 e1 h2 e2 h3 e3=>?_
 obtain⟨k1,g1,z1⟩:=aj e1
 obtain⟨k2,g2,z2⟩:=aj e2
 obtain⟨k3,g3,z3⟩:=aj e3
 refine⟨_,_,_,aa ((k2.trans k3).bk (by omega) g1) rfl,λh4 e4=>?_⟩
 obtain⟨k4,g4,z4⟩:=aj e4
 refine⟨_,_,_,aa (((k2.trans k3).trans k4).bk (by omega) g1) rfl,λh5 e5=>?_⟩
 obtain⟨k5,g5,z5⟩:=aj e5
 have k25:=((k2.trans k3).trans k4).trans k5
 have k15:=k1.trans k25
 obtain⟨A6,K6,h6,x1,x2,x3,x4⟩:=nX (r:=aJ) (bytes:=24) (eu _ _ _) (by kernel_rfl) Z.vs (by omega) (by omega) k15 ((k4.trans k5).bk (by omega) g3) (by omega) (by omega)
 have z6:=x3.next
 have k16:Nw h h6:=x3.is_nw k15 λz hz=>by omega
 have g16:=x3.bk (by omega) (by omega) (k25.bk (by omega) g1)
 obtain⟨A7,K7,h7,y1,y2,y3,y4⟩:=nX (r:=aJ) (bytes:=24) (eu _ _ _) (by kernel_rfl) Z.xa (by omega) (by omega) k16 (x3.bk (by omega) (by omega) (k5.bk (by omega) g4)) (by omega) (by omega)
 have z7:=y3.next
 obtain⟨h8,s8,b8,z8,o8⟩:=bI (vs:=[.slice A6 nv K6,.slice A7 na K7,.slice none 0 0]) (y3.bk (by omega) (by omega) (x3.bk (by omega) (by omega) g5)) rfl (by simp[flat])
 have m8:Mt (λz=>z=h4.next) h7 h8:=⟨by omega,λz _ hn=>o8 z hn⟩
 have lo6:∀z,af A6 z->h.next<=z/\z≠h4.next/\z≠h1.next/\z≠h3.next/\z<h6.next:=λz hz=>by rcases x4 z hz with h | h <;>omega
 have lo7:∀z,af A7 z->h.next<=z/\z≠h4.next/\z≠h1.next/\z<h7.next/\(z=h3.next\/h6.next<=z):=λz hz=>by rcases y4 z hz with h | h <;>omega
 have v8:al aJ h8 (af A6) 123 A6 nv K6 N.vs:=(x2.off y3 λz hz _ e=>(lo6 z hz).2.2.2.1 e).off m8 λz hz _ e=>(lo6 z hz).2.1 e
 have a8:al aJ h8 (af A7) 44 A7 na K7 N.xa:=y2.off m8 λz hz _ e=>(lo7 z hz).2.1 e
 have k18:Nw h h8:=m8.is_nw (y3.is_nw k16 λz hz=>by omega) λz hz=>by omega
 have g18:=m8.bk (by omega) (by omega) (y3.bk (by omega) (by omega) g16)
 have g28:Bk h8 h1.next [.slice none 0 0,.slice none 0 0,.slice none 0 0] 26:=m8.bk (by omega) (by omega) (y3.bk (by omega) (by omega) (x3.bk (by omega) (by omega) (((k3.trans k4).trans k5).bk (by omega) g2)))
 refine⟨A6,nv,K6,h6,x1,aa g16 rfl,tG 5 _ _ _,A7,na,K7,h7,y1,h8,s8,λm x h12=>∃(l:Nat) (A3:Option Addr) (K3:Nat),x=l/\l<=nt/\m=nt - l/\Bk h12 h4.next [.slice A6 nv K6,.slice A7 na K7,.slice A3 l K3] 26/\eB h12 (λz=>h8.next<=z) A3 l K3 (N.ts.take l)/\Mt (λz=>z=h4.next) h8 h12,nt,⟨0,none,0,rfl,Nat.zero_le _,rfl,b8,eB.nil _ _,Mt.refl _ _⟩,?_⟩
 rintro m3 x h12 ⟨l,A3,K3,rfl,hl,hm3,b12,o3,m12⟩
 have z12:=m12.next
 have k112:Nw h h12:=m12.is_nw k18 λz hz=>by omega
 have g112:=m12.bk (by omega) (by omega) g18
 have g212:=m12.bk (by omega) (by omega) g28
 refine⟨_,_,_,aa g112 rfl,λhlt=>?_,λhge3=>?_⟩
 ·obtain⟨b',o',p',q',A',n',K',zs,hA',-,-,htt,f0,f1',f2',sz⟩:=(Z.nw k112).ts.tableZ (k:=l) (by omega)
  have hcc:=f4 _ (List.mem_of_getElem? htt)
  have hzl:=sz.len
  simp only at hcc
  refine⟨_,_,_,aa g112 rfl,l,rfl,b',o',hA',by omega,_,_,_,_,_,aG f0 f1' f2',λh10 e10=>?_⟩
  obtain⟨h11,s11,k11,g11,z11⟩:=ay (vs:=[.int .i64 p',.int .i64 q',.slice A' n' K']) e10 rfl (by simp[flat])
  have b11:=k11.bk (by omega) b12
  refine⟨h11,s11,_,_,_,aa b11 rfl,p',aa g11 rfl,q',aa g11 rfl,λh12' e12=>?_⟩
  obtain⟨k12,g12,z12'⟩:=aj e12
  obtain⟨A13,K13,h13,w1,w2,w3,w4⟩:=nX (r:=cI) (bytes:=8) (t:=2) dX (by kernel_rfl) sz (by omega) (by omega) (k11.trans k12) g12 (by omega) (by omega)
  have z13:=w3.next
  have b13:=w3.bk (by omega) (by omega) (k12.bk (by omega) b11)
  have g13:=w3.bk (by omega) (by omega) (k12.bk (by omega) g11)
  have k12x:Nw h12 h13:=w3.is_nw (k11.trans k12) λz hz=>by omega
  obtain⟨ol,⟨R,K9,r1',r2',r3,r4⟩,r5⟩:=o3
  have r1:=r1'.nw k12x
  have r2:∀k,k<l->al cI h13 (af (R k)) 2 (R k) (tbL (N.ts.take l) k).2.2.length (K9 k) (tbL (N.ts.take l) k).2.2:=λk hk=>(r2' k hk).nw k12x
  have hRold:∀k z,k<l->af (R k) z->z<h12.next:=λk z hk hz=>(r2' k hk).own hz
  refine⟨_,_,_,aa (k12.bk (by omega) g11) rfl,A13,n',K13,h13,w1,aa g13 rfl,aa g13 rfl,aa b13 rfl,r1.spot,λh14 e14=>?_⟩
  obtain⟨k14,g14,z14⟩:=aj e14
  have lo13:∀z,af A13 z->h12.next<=z/\z<h13.next:=λz hz=>by rcases w4 z hz with h | h <;>omega
  have hz:Sz Rc.raw (λz=>z=h13.next) h14 (some ⟨h13.next,0,none⟩) 1 2 [(p',q',A13,n',K13)]:=Sz.one g14 rfl (by omega) rfl rfl
  obtain⟨A21,K21,h15,u1,u2,u3,u4⟩:=aX (r:=Rc.raw) (bytes:=40) Ab (by kernel_rfl) (r1.nw k14) hz (by omega) (by omega)
  have z15:=u3.next
  have nO:∀{z},af A3 z->h8.next<=z/\z<h12.next:=fun {z} ho=>⟨r5 z ho,r1'.own ho⟩
  obtain⟨h16,s16,b16,z16,o16⟩:=aA (v:=.slice A21 (l+1) K21) (u3.bk (by omega) (λho=>by have:=nO ho;omega) (k14.bk (by omega) b13)) (o:=2) (by simp) rfl
  have m16:Mt (λz=>z=h4.next) h15 h16:=⟨by omega,λz _ hn=>o16 z hn⟩
  have lo21:∀z,af A21 z->(af A3 z\/h14.next<=z)/\h8.next<=z:=λz hz=>(u4 z hz).elim (λh=>⟨.inl h,r5 z h⟩) (λh=>⟨.inr h.1,by omega⟩)
  have htk:N.ts.take (l+1)=N.ts.take l ++ [(p',q',zs)]:=by rw[List.take_add_one,htt];rfl
  have tkl:(N.ts.take l).length=l:=by rw[List.length_take];omega
  have tlt:∀k,k<l->tbL (N.ts.take (l+1)) k=tbL (N.ts.take l) k:=λk hk=>by unfold tbL;rw[htk,List.getElem?_append_left (by omega)]
  have teq:tbL (N.ts.take (l+1)) l=(p',q',zs):=rC (by rw[htk,List.getElem?_append_right (by omega),tkl,Nat.sub_self];rfl)
  refine⟨A21,l+1,K21,h15,u1,h16,s16,_,wrS (by omega),nt - (l+1),by omega,l+1,A21,K21,rfl,by omega,rfl,b16,⟨by rw[htk,List.length_append,tkl];rfl,⟨upd R l A13,upd K9 l K13,?_,λk hk=>?_,λk z hk hz=>?_,λk k' z hk hk' h h'=>?_⟩,λz hz=>(lo21 z hz).2⟩,((((m12.nw k11).nw k12).trans w3 λz hz hlt=>by omega).nw k14 |>.trans u3 λz hz hlt=>by have:=(nO hz).1;omega).then m16⟩
  ·have e:jz (N.ts.take l) R K9 l ++ [(p',q',A13,n',K13)]=jz (N.ts.take (l+1)) (upd R l A13) (upd K9 l K13) (l+1):=by
    have q:jz (N.ts.take l) R K9 l=jz (N.ts.take (l+1)) (upd R l A13) (upd K9 l K13) l:=ow λk hk=>by
     rw[tlt k hk]
     unfold upd
     rw[if_neg (by omega),if_neg (by omega)]
    have q2:jz (N.ts.take (l+1)) (upd R l A13) (upd K9 l K13) (l+1)=jz (N.ts.take (l+1)) (upd R l A13) (upd K9 l K13) l ++ [((tbL (N.ts.take (l+1)) l).1,(tbL (N.ts.take (l+1)) l).2.1,upd R l A13 l,(tbL (N.ts.take (l+1)) l).2.2.length,upd K9 l K13 l)]:=by
     unfold jz
     rw[List.range_succ,List.map_append]
     rfl
    rw[q2,q,teq]
    simp[upd,hzl]
   rw[<-e]
   exact u2.off m16 λz hz _ e=>by have:=(lo21 z hz).2;omega
  ·unfold upd
   by_cases e:k=l
   ·subst e
    rw[if_pos rfl,if_pos rfl,teq]
    simp only
    rw[hzl]
    exact(((w2.nw k14).off u3 λz hz _ ho=>by have:=lo13 z hz;have:=nO ho;omega)).off m16 λz hz _ e=>by have:=lo13 z hz;omega
   ·have hk':k<l:=by omega
    rw[if_neg e,if_neg e,tlt k hk']
    exact((((r2 k hk').nw k14).off u3 λz hz _ ho=>(r3 k z hk' hz).2 ho)).off m16 λz hz _ e=>by have:=(r3 k z hk' hz).1;omega
  ·unfold upd at hz
   by_cases e:k=l
   ·rw[if_pos e]at hz
    have:=lo13 z hz
    exact⟨by omega,λho=>(lo21 z ho).1.elim (λh=>by have:=nO h;omega) (λh=>by omega)⟩
   ·rw[if_neg e]at hz
    have hk':k<l:=by omega
    have:=hRold k z hk' hz
    exact⟨(r3 k z hk' hz).1,λho=>(lo21 z ho).1.elim (λh=>(r3 k z hk' hz).2 h) (λh=>by omega)⟩
  ·have new:∀{a:Nat},a<l->af (R a) z->¬af A13 z:=fun {a} ha h1 h2=>by
    have q1:=lo13 z h2
    have:=hRold a z ha h1
    omega
   unfold upd at h h'
   by_cases e:k=l
   ·by_cases e':k' = l
    ·omega
    ·rw[if_pos e]at h;rw[if_neg e']at h'
     exact absurd h (new (by omega) h')
   ·by_cases e':k' = l
    ·rw[if_neg e]at h;rw[if_pos e']at h'
     exact absurd h' (new (by omega) h)
    ·rw[if_neg e]at h;rw[if_neg e']at h'
     exact r4 k k' z (by omega) (by omega) h h'
 ·obtain rfl:l=nt:=by omega
  rw[List.take_of_length_le (by omega)]at o3
  obtain⟨h17,s17,b17,z17,o17⟩:=bI (vs:=[.slice A6 nv K6,.slice A7 na K7,.slice A3 l K3]) g212 rfl (by simp[flat])
  have m17:Mt (λz=>z=h1.next) h12 h17:=⟨by omega,λz _ hn=>o17 z hn⟩
  refine⟨_,_,_,_,_,_,_,_,_,aG (aa b12 rfl) (aa b12 rfl) (aa b12 rfl),h17,s17,_,_,_,_,_,_,_,_,_,aG (aa b17 rfl) (aa b17 rfl) (aa b17 rfl),hK _ _ _ _ _ _ h17 ?_ ?_ ?_ (λz hz=>?_) (λz hz=>?_) (m17.is_nw k112 λz hz=>by omega)⟩
  ·exact(v8.off m12 λz hz _ e=>(lo6 z hz).2.1 e).off m17 λz hz _ e=>(lo6 z hz).2.2.1 e
  ·exact(a8.off m12 λz hz _ e=>(lo7 z hz).2.1 e).off m17 λz hz _ e=>(lo7 z hz).2.2.1 e
  ·exact((o3.off m17 λz hz _ e=>by omega).lt).mono λz hz=>⟨by omega,λh=>by have:=lo6 z h;omega,λh=>by have:=lo7 z h;omega,hz.2⟩
  ·have:=lo6 z hz
   exact⟨this.1,λh7=>by have:=lo7 z h7;omega⟩
  ·have:=lo7 z hz
   exact this.1
end
end Eva
end
end Go.Proofs.YtaomlhopkfmheaaGreatDoor
