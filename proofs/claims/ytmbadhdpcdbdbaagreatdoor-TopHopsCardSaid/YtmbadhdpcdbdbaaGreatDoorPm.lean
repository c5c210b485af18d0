/-
Lemmas for TopHops. No condition.
-/
import Derived.Test.YtmbadhdpcdbdbaaGreatDoorPl
import Derived.Test.YtmbadhdpcdbdbaaGreatDoorPk
import Derived.Test.YtmbadhdpcdbdbaaGreatDoorPi
import Derived.Test.YtmbadhdpcdbdbaaGreatDoorPf
namespace Go.Proofs.YtmbadhdpcdbdbaaGreatDoor
open _root_.Go.IntKind renaming i64->ν
open _root_.Go.Value renaming int->η,pointer->μ,slice->ω
open _root_.Option renaming none->ψ,some->ξ
set_option linter.unusedVariables false
set_option linter.unusedSimpArgs false
set_option linter.unusedSectionVars false
set_option linter.unnecessarySimpa false
section
open Go Go.RowKit
namespace Eva
theorem DK (i T:Nat) (x y:Int) (hi:i<T):(List.replicate i x ++ List.replicate (T - i) y).set i x=List.replicate (i+1) x ++ List.replicate (T - (i+1)) y:=by
 rw[List.set_append_right _ _ (by simp),List.length_replicate,Nat.sub_self,show T - i=(T - (i+1))+1 by omega,List.replicate_succ,List.set_cons_zero,List.replicate_succ',List.append_assoc];rfl
theorem yc {done:Nat->Option Nat}{k c n:Nat}(hk:k<n):((List.range n).map λa=>(done a).isSome).set k true=(List.range n).map λa=>(upd done k (ξ c) a).isSome:=by
 apply List.ext_getElem?;intro i;rw[List.getElem?_set];by_cases e:k=i
 .subst e;simp[hk,upd]
 .simp only[if_neg e,List.getElem?_map];by_cases hi:i<n
  .simp[List.getElem?_range hi,upd,Ne.symm e]
  .rw[List.getElem?_eq_none (by simpa using hi)];rfl
theorem j7 (st:Nat):gd aH (λb=>if b=st then ξ 0 else ψ)=λb=>if b=st then ξ 0 else none:=by
 funext b
 unfold gd;by_cases h:b=st
 .simp[h,aH]
 .simp[h]
structure LA (h0:AH) (C hb hp n outs m:Nat) (fl:List Value) (starts:List Nat) (steps:Nat->List bw) (i:Nat) (h:AH) (pre:List Int):Prop where
 nw:Nw h0 h
 cst:Bk h C ((pre ++ List.replicate ((m - i)*outs) an).map (Value.int .i64)) 2
 len:pre.length=i*outs
 fld:Bk h h0.next fl 277
 hbx:Bk h hb [μ (ξ ⟨hp,0,ψ⟩)] 133
 lt:h0.next<C/\C<hb/\hb<h.next
 heap:∃S q,bi h S hp n q/\(∀b,S b->h0.next+1<=b)/\¬S C/\¬S hb/\∀b,S b->b<h.next
 rows:∀j st,j<i->starts[j]? = ξ st->qX outs steps st ((pre.drop (j*outs)).take outs)
section
variable {h:AH}{Q:Value->AH->Prop}{F:Nat->Prop}{A:Option Addr}{m K g outs n M:Nat}{fb:Array Value}{starts:List Nat}{steps:Nat->List bw}
theorem BY (hst:Sa cI F h A m K (ints starts)) (hF:jv n outs M steps) (hM:M*(n+1)<1152921504606846976) (hn:n<=16384) (hm:m<=16384) (hmo:m*outs<100000) (hs:∀s∈starts,s<n) (hN:j6 h g fb n steps)
  (hK:∀(C:Nat) (costs:List Int) (h':AH),Bk h' C (costs.map (Value.int .i64)) 2->h.next<=C->C<h'.next->costs.length=m*outs->(∀i st,starts[i]? = ξ st->qX outs steps st ((costs.drop (i*outs)).take outs))->Nw h h'->Q (ω (ξ ⟨C,0,ψ⟩) (m*outs) (cx (m*outs))) h') :
  WC Tryz.prog 153 [.agg #[η ν n,ω A m K,.func (.func g) #[] fb],η ν outs] h Q:=by
 have hml:starts.length=m:=by simpa[ints]using hst.len
 obtain⟨T,hT⟩:∃T,m*outs=T:=⟨_,rfl⟩;refine jP λh1 e1=>?_;obtain⟨k1,g1,z1⟩:=aj e1;have y1:ldC h1 h.next 1=ξ (ω A m K):=aa g1 rfl;have wmo:IntKind.i64.wrap ((m:Int)*(outs:Int))=(T:Int):=by rw[<-Int.natCast_mul,hT];exact af U U
 refine⟨A,m,K,y1,_,wmo,T,rfl,U,λh2 e2=>?_⟩;obtain⟨k2,g2,z2⟩:=aj e2;rw[a9]at g2;refine⟨λmm x h3=>∃i:Nat,x=i/\i<=T/\mm=T - i/\Bk h3 h1.next ((List.replicate i an ++ List.replicate (T - i) 0).map (Value.int .i64)) 2/\h3.next=h2.next/\∀b,b≠h1.next->h3.get b=h2.get b,T,⟨0,rfl,Nat.zero_le _,rfl,by simpa using g2,rfl,λ_ _=>rfl⟩,?_⟩;rintro mm x h3 ⟨i,rfl,hi,rfl,b3,z3,o3⟩;refine⟨λhlt=>?_,λhge=>?_⟩
 .obtain⟨h4,s4,b4,z4,o4⟩:=cP b3 (k:=i) (by simp;omega) an;rw[DK i T an 0 U]at b4;exact⟨i,rfl,U,h4,s4,_,af U U,T - (i+1),U,i+1,U,U,rfl,b4,U,λb hb=>(o4 b hb).trans (o3 b hb)⟩
 obtain rfl:T=i:=U;rw[Nat.sub_self,List.replicate_zero,List.append_nil]at b3;have f3:Bk h3 h.next [η ν n,ω A m K,.func (.func g) #[] fb] 277:=(o3 _ U).trans (k2.bk U g1);have k3:Nw h h3:=⟨U,λb hb=>(o3 b U).trans ((k1.trans k2).get b hb)⟩;refine⟨_,aa f3 rfl,Fk n hn λh5 S5 hp H5 k5 hS5=>⟨_,rfl,λh6 e6=>?_⟩⟩;obtain⟨h7,s7,k7,g7,z7⟩:=aC (vs:=[μ (ξ ⟨hp,0,ψ⟩)]) e6 rfl (by simp[flat]);have hz5:=k5.next;have hz7:=k7.next;have f7:=(k5.trans k7).bk U f3;refine⟨h7,s7,A,m,K,aa f7 rfl,λmm x h8=>∃(i:Nat) (pre:List Int),x=i/\i<=m/\mm=m - i/\LA h h1.next h5.next hp n outs m [η ν n,ω A m K,.func (.func g) #[] fb] starts steps i h8 pre,m,⟨0,[],rfl,Nat.zero_le _,rfl,(k3.trans k5).trans k7,?_,by simp,f7,g7,U,⟨S5,_,H5.nw k7,λb hb=>by have:=hS5 b hb;omega,λhs=>by have:=hS5 _ hs;omega,λhs=>?_,λb hb=>?_⟩,λj st hj=>absurd hj (Nat.not_lt_zero _)⟩,?_⟩
 .have:=(k5.trans k7).bk U b3;simpa[hT]using this
 .obtain⟨row,costs,A',K',Bc,Bs,seats,-,-,-,q4⟩:=H5;have:=q4 _ hs;omega
 .obtain⟨row,costs,A',K',Bc,Bs,seats,-,-,-,q4⟩:=H5;have:=q4 _ hb;omega
 rintro mm x h8 ⟨i,pre,rfl,him,rfl,L⟩;refine⟨λhlt=>?_,λhge=>?_⟩
 rotate_left
 .obtain rfl:i=m:=U;have hc:=L.cst;rw[Nat.sub_self,Nat.zero_mul,List.replicate_zero,List.append_nil]at hc;have:=hK h1.next pre h8 hc U (by have:=L.lt;omega) L.len (λj st hj=>L.rows j st (by have:=(List.getElem?_eq_some_iff.1 hj).1;omega) hj) L.nw
  rwa [hT]at this
 have hil:i<m:=U;obtain⟨bA,oA,xs,rfl,-,hbA,hxs,exs⟩:=(hst.nw L.nw).int (k:=i) hil;obtain⟨st,hst1⟩:∃st,starts[i]? = ξ st:=⟨_,List.getElem?_eq_getElem U⟩;have hxst:xs=(st:Int):=by simp[ints,hst1]at hxs;exact hxs.symm
 subst hxst;have hstn:=hs st (List.mem_of_getElem? hst1);obtain⟨lo,hlo⟩:∃lo,i*outs=lo:=⟨_,rfl⟩;have hhi:(i+1)*outs=lo+outs:=by rw[Nat.succ_mul,hlo]
 have hle:(i+1)*outs<=m*outs:=Nat.mul_le_mul_right _ hil;have wlo:IntKind.i64.wrap ((i:Int)*(outs:Int))=(lo:Int):=by rw[<-Int.natCast_mul,hlo];exact af U U
 have whi:IntKind.i64.wrap (((i+1:Nat):Int)*(outs:Int))=((lo+outs:Nat):Int):=by rw[<-Int.natCast_mul,hhi];exact af U U
 have hi1:IntKind.i64.wrap ((i:Int)+1)=((i+1:Nat):Int):=by rw[Int.natCast_succ];exact af U U
 have hsl:=sZ (P:=Tryz.prog) (e:=2) (C:=h1.next) (n:=T) (lo:=lo) (hi:=lo+outs) (by obtain⟨q,q1,q2,-⟩:=bo GG;exact⟨q,q1,q2⟩) U U (by
  rcases Nat.eq_zero_or_pos outs with h0 | h0
  .right;rw[<-hlo,h0,Nat.mul_zero]
  .left;omega)
 rw[Nat.add_sub_cancel_left]at hsl;refine⟨i,rfl,bA,oA,rfl,hil,_,exs,_,wlo,_,hi1,_,whi,lo,rfl,lo+outs,rfl,_,_,_,hsl,λh9 e9=>?_⟩;obtain⟨h10,s10,k10,g10,z10⟩:=aC (vs:=[ω (ξ ⟨h1.next,lo,ψ⟩) outs (cx (T - lo))]) e9 rfl (by simp[flat]);obtain⟨l1,l2,l3⟩:=L.lt;have f10:=k10.bk U L.fld;refine⟨h10,s10,_,aa f10 rfl,n,rfl,U,λh11 e11 h12 e12=>?_⟩;obtain⟨k11,g11,z11⟩:=aj e11;rw[a9]at g11;obtain⟨h13,s13,k13,g13,z13⟩:=aC (vs:=[ω (ξ ⟨h10.next,0,ψ⟩) n (cx n)]) e12 rfl (by simp[flat]);have k813:Nw h8 h13:=(k10.trans k11).trans k13;obtain⟨S8,q8,H8,hS1,hS2,hS3,hS4⟩:=L.heap;refine⟨h13,s13,_,aa (k813.bk U L.hbx) rfl,BQ (H8.nw k813) λh14 H14 m14 z14=>⟨rfl,?_⟩⟩;have nS:∀{b},h8.next<=b->¬S8 b:=λhb hs=>by have:=hS4 _ hs;omega
 have hb14:Bk h14 h5.next [μ (ξ ⟨hp,0,ψ⟩)] 133:=m14.bk U hS3 (k813.bk U L.hbx);refine⟨_,aa hb14 rfl,zw H14 hstn (Int.le_refl _) U λh15 S15 H15 m15 g15=>⟨_,rfl,?_⟩⟩;have z15:=m15.next;have nS15:∀{b},b<h14.next->¬S8 b->¬S15 b:=λhb hn hs=>(g15 _ hs).elim hn (λh=>U);have mm15:Mt S8 h13 h15:=m14.trans m15 λb hb _=>hb;have hpl:pre.length=lo:=L.len.trans hlo;have hrep:List.replicate ((m - i)*outs) an=List.replicate outs an ++ List.replicate ((m - (i+1))*outs) an:=by
  rw[List.replicate_append_replicate,show(m - i)*outs=outs+(m - (i+1))*outs from by rw[show m - i=(m - (i+1))+1 by omega,Nat.succ_mul,Nat.add_comm]]
 have f15:Bk h15 h.next [η ν n,ω (ξ ⟨bA,oA,ψ⟩) m K,.func (.func g) #[] fb] 277:=mm15.bk U (λhs=>by have:=hS1 _ hs;omega) (k813.bk U L.fld);have LL:GH h h1.next h8.next h10.next h11.next h5.next hp outs n (cx (T - lo)) pre (List.replicate ((m - (i+1))*outs) an) (λ_=>ψ) h15 (List.replicate outs an) (λb=>if b=st then ξ 0 else ψ):=by
  refine⟨⟨by have:=L.nw.next;omega,λb hb=>(mm15.get b U (λhs=>by have:=hS1 _ hs;omega)).trans ((k813.get b U).trans (L.nw.get b hb))⟩,U,U,U,?_,by simp,?_,?_,?_,m15.bk U hS3 hb14,⟨S15,H15,λb hb=>(g15 b hb).elim (hS1 b) (λh=>U),nS15 U hS2,nS15 U (nS U),nS15 U (nS U),nS15 U (nS U),nS15 U hS3,λb hb=>?_⟩⟩
  .have:=mm15.bk U hS2 (k813.bk U L.cst)
   rwa [hrep,<-List.append_assoc]at this
  .have:=mm15.bk U (nS U) ((k11.trans k13).bk U g10)
   rwa [hpl]
  .have:=mm15.bk U (nS U) (k13.bk U g11);have e:(List.range n).map (λa=>((λ_=>none:Nat->Option Nat) a).isSome)=List.replicate n false:=by
    show(List.range n).map (λ_=>false)=_;rw[List.map_const',List.length_range]
   rw[e,List.map_replicate];exact this
  .exact mm15.bk U (nS U) g13
  .rcases g15 b hb with h | h
   .have:=hS4 b h;omega
   .omega
 refine⟨λmm h16=>∃(done q:Nat->Option Nat) (row:List Int),mm=n - dc done n/\GH h h1.next h8.next h10.next h11.next h5.next hp outs n (cx (T - lo)) pre (List.replicate ((m - (i+1))*outs) an) done h16 row q/\lV aH (eF steps) st done (gd aH q)/\fa outs steps done row/\F6 M (dc done n) q/\Bk h16 h.next [η ν n,ω (ξ ⟨bA,oA,ψ⟩) m K,.func (.func g) #[] fb] 277,n,⟨_,_,_,?_,LL,?_,fa.start _ _,λb c hb=>?_,f15⟩,?_⟩
 .have:dc (λ_=>ψ) n=0:=by simp[dc]
  rw[this];rfl
 .rw[j7];exact lV.new (by unfold aH;omega)
 .by_cases e:b=st
  .simp[e]at hb;omega
  .simp[e]at hb
 rintro mm h16 ⟨done,q,row,rfl,L16,hD,hR,hFw,f16⟩;obtain⟨S16,H16,c1,c2,c3,c4,c5,c6,c7⟩:=L16.heap;obtain⟨a1,a2,a3,a4,a5⟩:=L16.lt;obtain⟨n1,n2,n3,n4,n5,n6,n7⟩:=L16.ne;refine⟨_,aa L16.hbx rfl,Fm H16 (λhq=>?_) (λk c h17 hkN hqk hmin H17 m17 z17=>?_)⟩
 ·
  refine⟨_,_,_,rfl,λh=>Bool.noConfusion h,λ_ h22 e22=>?_⟩;obtain⟨h23,s23,k23,g23,z23⟩:=aC (vs:=[η ν 0]) e22 rfl (by simp[flat]);have hq0:∀b,gd aH q b=none:=λb=>by unfold gd;rw[hq b]
  have hrow:=hR.done hD hq0;refine⟨h23,s23,_,hi1,m - (i+1),U,i+1,pre ++ row,rfl,hil,rfl,?_⟩;have L23:=L16.keep1 k23;refine⟨L23.nw,?_,by rw[List.length_append,hpl,L16.len,hhi],k23.bk U f16,L23.hbx,U,⟨S16,q,H16.nw k23,c1,c2,c6,λb hb=>by have:=c7 b hb;omega⟩,λj sj hj hsj=>?_⟩
  .have:=L23.cst;simpa only[List.append_assoc]using this
  .by_cases e:j=i
   .subst e;obtain rfl:st=sj:=Option.some.inj (hst1.symm.trans hsj);have e1:((pre ++ row).drop (j*outs)).take outs=row:=by
     rw[show j*outs=pre.length from hlo.trans hpl.symm,List.drop_left];exact List.take_of_length_le (Nat.le_of_eq L16.len)
    rw[e1];exact hrow
   .have h9:=L.rows j sj U hsj;have h10:(j+1)*outs<=i*outs:=Nat.mul_le_mul_right _ U;rw[Nat.succ_mul]at h10;rw[List.drop_append_of_le_length (by rw[hpl];omega),List.take_append_of_le_length (by rw[List.length_drop,hpl];omega)];exact h9
 ·
  refine⟨_,_,_,rfl,λ_ h18 e18=>?_,λh=>Bool.noConfusion h⟩;obtain⟨h19,s19,k19,g19,z19⟩:=aC (vs:=[η ν c]) e18 rfl (by simp[flat]);obtain⟨r1,r2,r3,r4,r5⟩:=FA hF hM hD hR hFw hqk hkN hmin;have d19:Bk h19 h11.next [ω (ξ ⟨h10.next,0,ψ⟩) n (cx n)] 173:=k19.bk U (m17.bk a4 c5 L16.dbx);have D19:=k19.bk U (m17.bk a3 c4 L16.dbl);obtain⟨h20,s20,b20,z20,o20⟩:=aD (v:=.bool true) D19 (o:=0+k) (by simpa using hkN) rfl;rw[Nat.zero_add,<-List.map_set,yc (c:=c) hkN]at b20;have f20:Bk h20 h.next [η ν n,ω (ξ ⟨bA,oA,ψ⟩) m K,.func (.func g) #[] fb] 277:=(o20 _ U).trans (k19.bk U (m17.bk U (λhs=>by have:=c1 _ hs;omega) f16));refine⟨h19,s19,_,_,_,aa d19 rfl,k,rfl,_,_,rfl,hkN,h20,s20,g,fb,aa f20 rfl,hN.1,?_⟩;have nw20:Nw h h20:=⟨by have:=L16.nw.next;omega,λb hb=>(o20 b U).trans ((k19.get b (by have:=L16.nw.next;omega)).trans ((m17.get b (by have:=L16.nw.next;omega) (λhs=>by have:=c1 _ hs;omega)).trans (L16.nw.get b hb)))⟩;have bk20:∀{b:Nat}{cs:List Value}{t:TypeId},b<h16.next->¬S16 b->b≠h10.next->Bk h16 b cs t->Bk h20 b cs t:=λhb hn hne hk=>(o20 _ hne).trans (k19.bk U (m17.bk hb hn hk));have LS20:LS h h1.next h8.next h17.next h10.next h11.next h5.next hp outs n (cx (T - lo)) pre (List.replicate ((m - (i+1))*outs) an) (upd done k (ξ c)) c h20 row (del q k):=by
   refine⟨nw20,by have:=L16.nw.next;omega,U,U,bk20 a1 c2 n2 L16.cst,L16.len,bk20 a2 c3 U L16.rbx,(o20 _ U).trans g19,b20,bk20 a4 c5 U L16.dbx,bk20 a5 c6 U L16.hbx,⟨S16,(H17.nw k19).off (S':=λb=>b=h10.next) ⟨U,λb _ hb=>o20 b hb⟩ (λb hb e=>c4 (e ▸ hb)),c1,c2,c3,λhs=>by have:=c7 _ hs;omega,c4,c5,c6⟩⟩
  refine hN.2 k hkN h20 225 #[μ (ξ ⟨h8.next,0,ψ⟩),μ (ξ ⟨h17.next,0,ψ⟩),μ (ξ ⟨h11.next,0,ψ⟩),μ (ξ ⟨h5.next,0,ψ⟩)]
   (λj h'=>LS h h1.next h8.next h17.next h10.next h11.next h5.next hp outs n (cx (T - lo)) pre (List.replicate ((m - (i+1))*outs) an) (upd done k (ξ c)) c h' (dG (upd done k (ξ c)) c ((steps k).take j) (row,del q k)).1 (dG (upd done k (ξ c)) c ((steps k).take j) (row,del q k)).2/\Bk h' h.next [η ν n,ω (ξ ⟨bA,oA,ψ⟩) m K,.func (.func g) #[] fb] 277) _
   (λj h' hj=>hj.1.nw) (λj h' h'' hj hw=>⟨hj.1.next hw,hw.bk (by have:=hj.1.nw.next;have:=hj.1.lt;have:=hj.1.lo;omega) hj.2⟩) (by kernel_rfl) (λj s h' Q' hj hsj hQ'=>?_) ⟨LS20,f20⟩ (λh21 hj=>⟨rfl,?_⟩)
  .exact GF hj.1 (hF.pos k s hkN (List.mem_of_getElem? hsj)) r2 U λh'' L'' g''=>hQ' h'' ⟨by rw[zE hsj];exact L'',g''.trans hj.2⟩
  .obtain⟨L21,f21⟩:=hj;rw[List.take_length]at L21;obtain⟨S21,H21,u1,u2,u3,u4,u5,u6,u7⟩:=L21.heap;have hcl:=ta r1 hkN;refine⟨n - dc (upd done k (ξ c)) n,by rw[gB r1 n hkN];omega,_,_,_,rfl,⟨L21.nw,by have:=L21.lo;omega,by have:=L21.lt;omega,U,L21.cst,L21.len,L21.rbx,L21.dbl,L21.dbx,L21.hbx,⟨S21,H21,?_,u2,u3,u5,u6,u7,?_⟩⟩,r3,r4,r5,f21⟩
   .exact u1
   .obtain⟨row',costs',A',K',Bc,Bs,seats,-,-,-,q4⟩:=H21;exact q4
end
end Eva
end
section
open Go
namespace Eva
structure ld {α:Type} [DecidableEq α] (P:Program) (kt:TypeId) (κ:α->Value):Prop where
 pl:∀a,pl (κ a)=true
 eq:∀a b,ay P (Op.equal kt (κ a) (κ b))=ξ (decide (a=b))
 chk:∀e a,ki P kt e (κ a)=true
 bits:∀a,Instr.sameBits 10000 (κ a) (κ a)=true
section
variable {α:Type} [DecidableEq α]
abbrev GI (α:Type):=α×Value×Nat
def wL (κ:α->Value) (x:GI α):Value×Value×Nat:=(κ x.1,x.2.1,x.2.2)
def mc (l:List (GI α)) (a:α):Option Value:=(l.find? λx=>decide (x.1=a)).map (·.2.1)
theorem j8 {P:Program}{kt:TypeId}{κ:α->Value}(K:ld P kt κ) (a:α):∀(l:List (GI α)) (i:Nat),
  (fT P kt (κ a) (l.map (wL κ)) i=ξ ψ/\mc l a=ψ)\/
  ∃j v b,fT P kt (κ a) (l.map (wL κ)) i=ξ (ξ (i+j,v))/\l[j]? = ξ (a,v,b)/\mc l a=ξ v/\∀v' a',mc (l.set j (a,v',b)) a' = if a' = a then ξ v' else mc l a'
 | [],i=>.inl ⟨by show cond (Eva.pl (κ a)) (ξ ψ) ψ=_;rw[K.pl];rfl,rfl⟩
 | x :: l,i=>by
  have e0:fT P kt (κ a) ((x :: l).map (wL κ)) i=nK i x.2.1 (fT P kt (κ a) (l.map (wL κ)) (i+1)) (ξ (decide (a=x.1))):=by
   show cond (Eva.pl (κ a) && Eva.pl (κ x.1)) (nK i x.2.1 (fT P kt (κ a) (l.map (wL κ)) (i+1)) (ay P (Op.equal kt (κ a) (κ x.1)))) ψ=_;rw[K.pl,K.pl,K.eq];rfl
  rw[e0];by_cases h:a=x.1
  .refine .inr ⟨0,x.2.1,x.2.2,by rw[decide_eq_true h];rfl,by rw[h];rfl,by simp[mc,h],λv' a'=>?_⟩;by_cases h':a' = a
   .simp[mc,h']
   .have h2:¬a=a':=λe=>h' e.symm;have h3:¬x.1=a':=λe=>h2 (h.trans e);simp[mc,h',h2,h3]
  .have hx:¬x.1=a:=λe=>h e.symm;rw[decide_eq_false h];rcases j8 K a l (i+1) with⟨h1,h2⟩ | ⟨j,v,b,h1,h2,h3,h4⟩
   .exact .inl ⟨h1,by simpa[mc,hx]using h2⟩
   .refine .inr ⟨j+1,v,b,by show fT P kt (κ a) (l.map (wL κ)) (i+1)=_;rw[h1];congr 3;omega,by simpa using h2,by simpa[mc,hx]using h3,λv' a'=>?_⟩;have h5:=h4 v' a';by_cases h6:x.1=a'
    .have h7:¬a' = a:=λe=>hx (h6.trans e);simp[mc,h6,h7]
    .simpa[mc,h6]using h5
theorem uP {κ:α->Value}{a:α}{v v0:Value}{b:Nat}:∀{l:List (GI α)}{j:Nat},l[j]? = ξ (a,v0,b)->nQ (κ a) v (l.map (wL κ)) j=(l.set j (a,v,b)).map (wL κ)
 | [],j,h=>by simp at h
 | x :: l,0,h=>by simp at h;subst h;rfl
 | x :: l,j+1,h=>by
  show wL κ x :: nQ (κ a) v (l.map (wL κ)) j=_;rw[uP (l:=l) (j:=j) (by simpa using h)];rfl
def dP (κ:α->Value) (h:AH) (r:Nat) (f:α->Option Value):Prop:=
 ∃(l:List (GI α)) (clock:Nat),h.get r=ξ (.map (l.map (wL κ)) clock)/\∀a,f a=mc l a
theorem dP.keep {κ:α->Value}{h h':AH}{r:Nat}{f:α->Option Value}(m:dP κ h r f) (hg:h'.get r=h.get r):dP κ h' r f:=by
 obtain⟨l,c,h1,h2⟩:=m;exact⟨l,c,hg.trans h1,h2⟩
theorem dP.new {κ:α->Value}{h:AH}{r c:Nat}(hg:h.get r=ξ (.map [] c)):dP κ h r (λ_=>ψ):=⟨[],c,hg,λa=>rfl⟩
section
variable {P:Program}{kt e:TypeId}{κ:α->Value}{h:AH}{r:Nat}{f:α->Option Value}{i:TypeInfo}{z:Value}
theorem dP.look (m:dP κ h r f) (K:ld P kt κ) (hi:P.info? e=ξ i) (hz:i.zero=ξ z) (hp:Eva.pl z=true) (a:α) (ok:Bool) :
  bE P (ξ (.map kt e)) (.map (ξ r)) (κ a) ok h=ξ (cond ok (.tuple #[(f a).getD z,.bool (f a).isSome]) ((f a).getD z)):=by
 obtain⟨l,c,h1,h2⟩:=m;unfold bE kh;simp only[h1,hi,K.pl,K.chk,Bool.and_self,cond_true,h2,hz];rcases j8 K a l 0 with⟨g1,g2⟩ | ⟨j,v,b,g1,g2,g3,-⟩
 .rw[g1,g2];show cond (Eva.pl z) _ ψ=_;rw[hp];rfl
 .rw[g1,g3];rfl
theorem dP.put (m:dP κ h r f) (K:ld P kt κ) (a:α) (v:Value) :
  ∃h',fV P h (ξ (.map kt e)) (.map (ξ r)) (κ a) v=ξ (undef,h')/\dP κ h' r (λx=>if x=a then ξ v else f x)/\h'.next=h.next/\∀b,b≠r->h'.get b=h.get b:=by
 obtain⟨l,c,h1,h2⟩:=m;have hput:∀ao,(h.put r ao).get r=ξ ao:=λao=>by rw[get_put,if_pos rfl]
 have hne:∀ao b,b≠r->(h.put r ao).get b=h.get b:=λao b hb=>by rw[get_put,if_neg hb]
 unfold fV;simp only[h1,K.pl,K.chk,Bool.and_self,cond_true];rcases j8 K a l 0 with⟨g1,g2⟩ | ⟨j,v0,b,g1,g2,g3,g4⟩
 .rw[g1];refine⟨h.put r (.map (l.map (wL κ) ++ [(κ a,v,c)]) (c+1)),rfl,⟨l ++ [(a,v,c)],c+1,?_,λx=>?_⟩,rfl,λb hb=>hne _ b hb⟩
  .rw[hput,List.map_append];rfl
  .simp only[h2];unfold mc at g2⊢;rw[List.find?_append];by_cases hx:x=a
   .subst hx;have:List.find? (λy=>decide (y.1=x)) l=none:=by simpa using g2
    simp[this]
   .have:¬a=x:=λe=>hx e.symm;simp[hx,this]
 .rw[g1];have hs:mZ (κ a) (l.map (wL κ))[0+j]? = true:=by
   rw[Nat.zero_add,List.getElem?_map,g2];exact K.bits a
  refine⟨h.put r (.map (nQ (κ a) v (l.map (wL κ)) (0+j)) c),by show cond (mZ (κ a) (l.map (wL κ))[0+j]?) _ ψ=_;rw[hs];rfl,⟨l.set j (a,v,b),c,?_,λx=>?_⟩,rfl,λb hb=>hne _ b hb⟩
  .rw[hput,Nat.zero_add,uP g2]
  .rw[g4 v x];simp only[h2]
end
end
def kN (a:Nat):Value:=η ν a
def Hh (a:Nat×Nat):Value:=.agg #[η ν a.1,η ν a.2]
section
variable {P:Program}{α β:Type}
theorem aA (s:Sem α) (k:α->Sem β):ay P (s >>= k)=(ay P s).bind λa=>ay P (k a):=by
 show ay P (Sem.bind s k)=_
 induction s with
 | pure a=>rfl
 | program f ih=>exact ih P
 | mark m f ih=>exact ih
 | _=>rfl
theorem bj (a:α):ay P (pure a:Sem α)=ξ a:=rfl
theorem cG {t:TypeId}{d:TypeDesc}(h:P.underlying t=ξ d):ay P (underlying t)=ξ d:=by
 unfold underlying;rw[aA];show(Option.bind (ξ P) _)=_;simp only[Option.bind_some,h];rfl
theorem mC {t:TypeId}{i:TypeInfo}(h:P.info? t=ξ i):ay P (sizeOf t)=ξ i.size:=by
 unfold sizeOf typeInfo;rw[aA,aA];show(Option.bind (Option.bind (ξ P) _) _)=_;simp only[Option.bind_some,h];rfl
theorem GJ {t:TypeId}{k:IntKind}(h:P.underlying t=ξ (.int k)) (d:Nat) (x y:Int):ay P (Op.equalIn (d+1) t (η ν x) (η ν y))=ξ (x == y):=by
 unfold Op.equalIn;rw[aA,cG h];rfl
theorem DL {t:TypeId}{k:IntKind}(h:P.underlying t=ξ (.int k)) (e:Bool) (d:Nat) (x:Int):ay P (Instr.checkKey e (d+1) t (η ν x))=ξ ():=by
 unfold Instr.checkKey;rw[aA,cG h];rfl
theorem HJ {kt:TypeId}{d:IntKind}(hu:P.underlying kt=ξ (.int d)):ld P kt kN where
 pl:=λa=>by rfl
 eq:=λa b=>by
  show ay P (Op.equalIn (9999+1) kt (η ν a) (η ν b))=_;rw[GJ hu]
  congr 1
  exact decide_eq_decide.2 Int.ofNat_inj
 chk:=λe a=>by
  show(match ay P (Instr.checkKey e (9999+1) kt (η ν a)) with | some _=>true | none=>false)=true;rw[DL hu]
 bits:=λa=>by
  show Instr.sameBits 10000 (η ν a) (η ν a)=true;unfold Instr.sameBits;simp
theorem bZ (c:Prop) [Decidable c] (s t:Sem α):ay P (if c then s else t)=if c then ay P s else ay P t:=by split <;>rfl
theorem aI {et:TypeId}{d:IntKind}{i:TypeInfo}(he:P.underlying et=ξ (.int d)) (hi:P.info? et=ξ i) (x:Array Value) (j:Nat){v:Value}(hv:x[j]? = ξ v):ay P (part et x j)=ξ v:=by
 unfold part isAgg;rw[aA,aA,cG he];simp only[Option.bind_some,hv];rfl
theorem GK {kt et:TypeId}{d:IntKind}{i:TypeInfo}(hu:P.underlying kt=ξ (.array 2 et)) (he:P.underlying et=ξ (.int d)) (hi:P.info? et=ξ i) (hs:i.size=1):ld P kt Hh where
 pl:=λa=>by rfl
 eq:=λa b=>by
  obtain⟨a1,a2⟩:=a;obtain⟨b1,b2⟩:=b;show ay P (Op.equalIn (9999+1) kt (.agg #[η ν a1,η ν a2]) (.agg #[η ν b1,η ν b2]))=_;unfold Op.equalIn;rw[aA,cG hu];simp only[Option.bind_some];rw[aA,mC hi,hs];simp only[Option.bind_some];simp only[Std.Legacy.Range.forIn_eq_forIn_range',Std.Legacy.Range.size,List.range',List.forIn_cons,List.forIn_nil];simp[aA,aI he hi,GJ he,List.range',bj,bZ];by_cases h1:a1=b1 <;>by_cases h2:a2=b2 <;>simp[h1,h2,aA,aI he hi,GJ he,bj,beq_iff_eq,Int.ofNat_inj]
 chk:=λe a=>by
  show(match ay P (Instr.checkKey e (9999+1) kt (.agg #[η ν a.1,η ν a.2])) with | some _=>true | none=>false)=true;unfold Instr.checkKey;rw[aA,cG hu];simp only[Option.bind_some];simp[aA,aI he hi,DL he,mC hi,hs,List.range',bj]
 bits:=λa=>by
  show Instr.sameBits 10000 (.agg #[η ν a.1,η ν a.2]) (.agg #[η ν a.1,η ν a.2])=true;unfold Instr.sameBits;simp[Instr.sameBits]
end
end Eva
end
section
open Go Go.RowKit
namespace Eva
theorem FB:ld Tryz.prog 3 kN:=HJ (d:=.i64) Tryz.underlying3
theorem yd:∃i,Tryz.prog.info? 3=ξ i/\i.zero=ξ (η ν 0):=by
 obtain⟨i,h1,h2⟩:∃i,Tryz.prog.info? 3=ξ i/\(match Tryz.prog.info? 3 with | some i=>i.zero | none=>ψ)=ξ (η ν 0):=by
  cases h:Tryz.prog.info? 3 with
  | some i=>exact⟨i,rfl,by rw[<-h];kernel_rfl⟩
  | none=>
   have:(Tryz.prog.info? 3).isSome=true:=by kernel_rfl
   rw[h]at this;cases this
 exact⟨i,h1,by rw[h1]at h2;exact h2⟩
def vu (L:List Nat):Nat->Option Value:=λa=>if a∈L then ξ (η ν ((L.idxOf a:Nat):Int)) else ψ
theorem BZ {L:List Nat}{b:Nat}(hb:b ∉ L):(λx=>if x=b then ξ (Value.int .i64 (L.length:Int)) else vu L x)=vu (L ++ [b]):=by
 funext x
 unfold vu;by_cases e:x=b
 .subst e;rw[if_pos rfl,if_pos (by simp),List.idxOf_append,if_neg hb];simp
 .rw[if_neg e];by_cases h:x∈L
  .rw[if_pos h,if_pos (by simp[h]),List.idxOf_append,if_pos h]
  .rw[if_neg h,if_neg (by simp[h,e])]
section
variable {h h0:AH}{Q:Value->AH->Prop}{F:Nat->Prop}{A:Option Addr}{n K:Nat}
theorem ye {L:List Nat}{pm:Nat}(m:dP kN h pm (vu L)) (b:Nat):bE Tryz.prog (ξ (.map 3 3)) (.map (ξ pm)) (η ν (b:Int)) true h=ξ (.tuple #[η ν (if b∈L then((L.idxOf b:Nat):Int) else 0),.bool (decide (b∈L))]):=by
 obtain⟨i,h1,h2⟩:=yd;have:=m.look FB h1 h2 rfl b true;show bE _ _ _ (kN b) true h=_;rw[this];unfold vu;by_cases hb:b∈L
 .simp[hb]
 .simp[hb]
theorem Ca {L:List Nat}{pm:Nat}(m:dP kN h pm (vu L)) (b:Nat):bE Tryz.prog (ξ (.map 3 3)) (.map (ξ pm)) (η ν (b:Int)) false h=ξ (η ν (if b∈L then((L.idxOf b:Nat):Int) else 0)):=by
 obtain⟨i,h1,h2⟩:=yd;have:=m.look FB h1 h2 rfl b false;show bE _ _ _ (kN b) false h=_;rw[this];unfold vu;by_cases hb:b∈L
 .simp[hb]
 .simp[hb]
theorem wM {L:List Nat}{pm:Nat}(m:dP kN h pm (vu L)){b:Nat}(hb:b ∉ L):∃h',fV Tryz.prog h (ξ (.map 3 3)) (.map (ξ pm)) (η ν (b:Int)) (η ν (L.length:Int))=ξ (undef,h')/\dP kN h' pm (vu (L ++ [b]))/\h'.next=h.next/\∀c,c≠pm->h'.get c=h.get c:=by
 obtain⟨h',x1,x2,x3,x4⟩:=m.put (P:=Tryz.prog) (e:=3) FB b (η ν (L.length:Int));rw[BZ hb]at x2;exact⟨h',x1,x2,x3,x4⟩
theorem Cb {S:List (List bw)}{sb:Nat}(hlt:sb<h0.next) (hb:ldC h0 sb 0=ξ (ω A n K)) (hs:Sa (Rc.slice aN) F h0 A n K S) (hS:∀r∈S,r.length<=100000):j6 h0 224 #[μ (ξ ⟨sb,0,ψ⟩)] n (cO S):=by
 refine⟨by kernel_rfl,λa ha h tg tfb J Q hJn hJs htg htell hJ0 hQ=>?_⟩;have nw0:=hJn 0 h hJ0;obtain⟨b,o,A',n',K',r,rfl,hF,hbl,hr,e0,s0⟩:=hs.row (k:=a) ha;have hrS:cO S a=r:=by unfold cO;rw[hr];rfl
 have hrl:=hS r (List.mem_of_getElem? hr);have hn':=s0.len;refine mP ⟨sb,0,rfl,_,_,_,(nw0.ldC hlt 0).trans hb,a,rfl,_,_,rfl,ha,_,_,_,(nw0.ldC hbl _).trans e0,λm x h1=>∃i:Nat,x=i/\i<=n'/\m=n' - i/\J i h1,n',⟨0,rfl,Nat.zero_le _,rfl,hJ0⟩,?_⟩;rintro m x h1 ⟨i,rfl,hi,rfl,hJ1⟩;refine⟨λhlt=>?_,λhge=>?_⟩
 .obtain⟨b3,o3,x3,x4,x5,rfl,-,-,hx,f0,f1,f2⟩:=(s0.nw (hJn _ _ hJ1)).tri (k:=i) U;refine⟨i,rfl,_,_,rfl,U,_,_,_,wE f0 f1 f2,λh2 e2=>?_⟩;obtain⟨h3,s3,k3,g3,z3⟩:=aC (vs:=[η ν x3,η ν x4,η ν x5]) e2 rfl (eC rfl rfl rfl);refine⟨h3,s3,_,_,_,wE (aa g3 rfl) (aa g3 rfl) (aa g3 rfl),htg,?_⟩;refine htell i (x3,x4,x5) h3 _ (hJs _ _ _ hJ1 k3) (by rw[hrS];exact hx) λh4 hJ4=>⟨rfl,_,af U U,n' - (i+1),U,i+1,U,U,rfl,hJ4⟩
 .have hin:i=(cO S a).length:=by rw[hrS];omega
  rw[hin]at hJ1;exact hQ h1 hJ1
end
end Eva
end
section
open Go Go.RowKit
namespace Eva
theorem IN:uH Tryz.prog 366 3 24=true:=by kernel_rfl
theorem HK:uH Tryz.prog 364 1 24=true:=by kernel_rfl
section
variable {h h':AH}{Q:Value->AH->Prop}{F:Nat->Prop}{A:Option Addr}{n K:Nat}{xs:List Int}
theorem DM (hs:Sa cI F h A n K xs) (hn:n<=100000) (hK:∀A' K' h',al cI h' (ah A') 3 A' n K' xs->Nw h h'->(∀b,ah A' b->h.next<=b)->Q (ω A' n K') h'):WC Tryz.prog 49 [ω A n K] h Q:=by
 refine dy ⟨λhA=>?_,λhA=>?_⟩
 .obtain⟨h0,h1⟩:=hs.nil0 hA;refine⟨h0,h1,?_⟩;subst hA h0 h1;have hx:xs = []:=List.eq_nil_of_length_eq_zero hs.len;subst hx;exact hK ψ 0 h (al.nil _ _ _ _) (Nw.refl _) (λb hb=>hb.elim)
 .obtain⟨b,o,rfl⟩:=hs.some_ hA;refine⟨b,o,rfl,λh1 e1=>?_⟩;obtain⟨k1,g1,z1⟩:=aj e1;have hB:al cI h1 (ah (ξ ⟨h.next,0,ψ⟩)) 3 (ξ ⟨h.next,0,ψ⟩) 0 (2*0) []:=al.lit (r:=cI) (xs:=[]) (n:=0) g1 rfl U rfl rfl (by simp) (by simp);obtain⟨A',K',h',x1,x2,x3,x4⟩:=aV (cE _) (r:=cI) dC hB (hs.nw k1).z U U;rw[Nat.zero_add]at x1 x2;rw[List.nil_append]at x2;refine⟨A',n,K',h',x1,hK _ _ _ x2 (x3.is_nw k1 λb hb=>?_) λb hb=>?_⟩
  .have:b=h.next:=hb;omega
  .rcases x4 b hb with h2 | h2
   .have:b=h.next:=h2;omega
   .omega
end
theorem uQ (N:ab) (outs L:List Nat) (a:Nat) (bs:List Nat):(N.aRow outs L a bs).length<=bs.length:=List.length_filterMap_le _ _
structure AB (h0:AH) (N:ab) (p:List (List Int)) (c pm sb:Nat) (D:Nat->Prop) (A14:Option Addr) (K14 i:Nat) (S:List (List bw)) (h:AH) (A5:Option Addr) (n5 K5:Nat) (L:List Nat):Prop where
 nw:Nw h0 h
 fld:gY N p c L i S
 len:L.length=n5
 arcs:al cI h (ah A5) 3 A5 n5 K5 (ints L)
 map_:dP kN h pm (vu L)
 sbx:Bk h sb [ω A14 i K14] 363
 stp:al (Rc.slice aN) h D 364 A14 i K14 S
 dlo:∀b,D b->h0.next<=b/\b<h.next/\b≠pm/\b≠sb
 alo:∀b,ah A5 b->h0.next<=b/\b≠pm/\b≠sb/\¬D b
 pos:h0.next<=pm/\h0.next<=sb/\pm≠sb/\pm<h.next/\sb<h.next
section
variable {h h' h0:AH}{N:ab}{p:List (List Int)}{c pm sb:Nat}{D:Nat->Prop}{A14 A5:Option Addr}{K14 i n5 K5:Nat}{S:List (List bw)}{L:List Nat}{a b:Nat}
theorem AB.keep (B:AB h0 N p c pm sb D A14 K14 i S h A5 n5 K5 L) (hk:∀b,b<h.next->h'.get b=h.get b) (hn:h.next<=h'.next):AB h0 N p c pm sb D A14 K14 i S h' A5 n5 K5 L:=by
 obtain⟨p1,p2,p3,p4,p5⟩:=B.pos;have a:Nw h h':=⟨hn,hk⟩;exact⟨B.nw.trans a,B.fld,B.len,B.arcs.nw a,B.map_.keep (hk _ p4),a.bk p5 B.sbx,B.stp.nw a,λb hb=>by have:=B.dlo b hb;omega,B.alo,U⟩
theorem AB.next (B:AB h0 N p c pm sb D A14 K14 i S h A5 n5 K5 L) (a:Nw h h'):AB h0 N p c pm sb D A14 K14 i S h' A5 n5 K5 L:=B.keep a.get a.next
theorem AB.grow (B:AB h0 N p c pm sb D A14 K14 i S h A5 n5 K5 L) (hok:N.Ok) (hfew:N.na<=1000){r:Nat}(ha:L[r]? = ξ a) (hb:N.aIn (N.outs p 1 c) a b) (hn:b ∉ L) :
  ∃h19,fV Tryz.prog h (ξ (.map 3 3)) (.map (ξ pm)) (η ν (b:Int)) (η ν (n5:Int))=ξ (undef,h19)/\
   ∀h20,h20=AH.new h19 (.cells [η ν (b:Int)] 3 false)->∃A' K' h21,ai Tryz.prog h20 (ξ (.slice 3)) (ξ (.slice 3)) (ω A5 n5 K5) (ω (ξ ⟨h19.next,0,ψ⟩) 1 2)=ξ (ω A' (n5+1) K',h21)/\
    AB h0 N p c pm sb D A14 K14 i S h21 A' (n5+1) K' (L ++ [b])/\(∀x,ah A' x->ah A5 x\/h.next<=x)/\h.next<=h21.next/\(∀x,x<h.next->x≠pm->¬ah A5 x->h21.get x=h.get x):=by
 obtain⟨p1,p2,p3,p4,p5⟩:=B.pos;have hL:=B.fld.len;obtain⟨h19,x1,x2,x3,x4⟩:=wM B.map_ hn;rw[B.len]at x1;refine⟨h19,x1,λh20 e20=>?_⟩;obtain⟨k20,g20,z20⟩:=aj e20;have hn5:=B.len;have arcs19:al cI h19 (ah A5) 3 A5 n5 K5 (ints L):=B.arcs.keep (λx hx _=>x4 x (λe=>(B.alo x hx).2.1 e)) U;have hz:Sz cI (λx=>x=h19.next) h20 (ξ ⟨h19.next,0,ψ⟩) 1 2 [(b:Int)]:=Sz.one g20 rfl U rfl rfl;obtain⟨A',K',h21,y1,y2,y3,y4⟩:=aV (cE _) (r:=cI) dC (arcs19.nw k20) hz U U;have z21:=y3.next;have same:∀x,x<h.next->x≠pm->¬ah A5 x->h21.get x=h.get x:=λx hx h1 h2=>(y3.get x U h2).trans ((k20.get x U).trans (x4 x h1));have hA:∀x,ah A' x->ah A5 x\/h.next<=x:=λx hx=>(y4 x hx).imp id (λh=>U);have nA:∀{x},D x->¬ah A5 x:=λhd ha=>(B.alo _ ha).2.2.2 hd;refine⟨A',K',h21,y1,⟨⟨by have:=B.nw.next;omega,λx hx=>(same x (by have:=B.nw.next;omega) U (λha=>by have:=(B.alo x ha).1;omega)).trans (B.nw.get x hx)⟩,B.fld.add hok ha hb hn,by simp[hn5],?_,?_,?_,?_,λx hx=>by have:=B.dlo x hx;omega,λx hx=>?_,U⟩,hA,U,same⟩
 .have:ints (L ++ [b])=ints L ++ [(b:Int)]:=by simp[ints]
  rw[this];exact y2
 .refine x2.keep ((y3.get _ U (λha=>(B.alo _ ha).2.1 rfl)).trans (k20.get _ U))
 .exact(same _ p5 (Ne.symm p3) (λha=>(B.alo _ ha).2.2.1 rfl)).trans B.sbx
 .exact B.stp.keep (λx hx hlt=>same x hlt (B.dlo x hx).2.2.1 (nA hx)) U
 .rcases hA x hx with h1 | h1
  .exact B.alo x h1
  .exact⟨U,U,U,λhd=>by have:=(B.dlo x hd).2.1;omega⟩
end
end Eva
end
section
open Go Go.RowKit
namespace Eva
section
variable {h h' h0 h1:AH}{N:ab}{p:List (List Int)}{c pm sb top:Nat}{D:Nat->Prop}{A14 A5 A8:Option Addr}{K14 i n5 K5 n8 K8:Nat}{S:List (List bw)}{L:List Nat}{a b:Nat}{l:List bw}
theorem ny (o:al aN h (ah A8) 366 A8 n8 K8 l) (hn:n8<=2000) (s:bw) (e:h1=AH.new h (.cells [η ν s.1,η ν s.2.1,η ν s.2.2] 366 false)) :
  ∃A' K' h2,ai Tryz.prog h1 (ξ (.slice 366)) (ξ (.slice 366)) (ω A8 n8 K8) (ω (ξ ⟨h.next,0,ψ⟩) 1 2)=ξ (ω A' (n8+1) K',h2)/\al aN h2 (ah A') 366 A' (n8+1) K' (l ++ [s])/\Mt (ah A8) h h2/\h.next<h2.next/\∀b,ah A' b->ah A8 b\/h.next<=b:=by
 obtain⟨k1,g1,z1⟩:=aj e;have hz:Sz aN (λx=>x=h.next) h1 (ξ ⟨h.next,0,ψ⟩) 1 2 [s]:=Sz.one g1 rfl U rfl rfl;obtain⟨A',K',h2,y1,y2,y3,y4⟩:=aV (em _ _ _) (r:=aN) IN (o.nw k1) hz U U;have z2:=y3.next;exact⟨A',K',h2,y1,y2,⟨U,λb hb hn=>(y3.get b U hn).trans (k1.get b hb)⟩,U,λb hb=>(y4 b hb).imp id λh=>U⟩
theorem AB.off (B:AB h0 N p c pm sb D A14 K14 i S h A5 n5 K5 L) (m:Mt (ah A8) h h') (h8:∀b,ah A8 b->top<=b/\¬ah A5 b) (ht:pm<top/\sb<top/\∀b,D b->b<top):AB h0 N p c pm sb D A14 K14 i S h' A5 n5 K5 L:=by
 obtain⟨p1,p2,p3,p4,p5⟩:=B.pos;obtain⟨t1,t2,t3⟩:=ht;have z:=m.next;have lo:∀{x},x<top->¬ah A8 x:=λhx hb=>by have:=(h8 _ hb).1;omega
 have nA:∀{x},ah A5 x->¬ah A8 x:=λhx hb=>(h8 _ hb).2 hx;exact⟨⟨by have:=B.nw.next;omega,λx hx=>(m.get x (by have:=B.nw.next;omega) (lo U)).trans (B.nw.get x hx)⟩,B.fld,B.len,B.arcs.keep (λx hx hlt=>m.get x hlt (nA hx)) z,B.map_.keep (m.get _ p4 (lo t1)),m.bk p5 (lo t2) B.sbx,B.stp.keep (λx hx hlt=>m.get x hlt (lo (t3 x hx))) z,λb hb=>by have:=B.dlo b hb;omega,B.alo,U⟩
end
theorem dk {l:List Nat}{a:Nat}:(0<=bK l a↔a∈l):=by
 unfold bK;by_cases h:a∈l
 .rw[if_pos h];exact⟨λ_=>h,λ_=>Int.natCast_nonneg _⟩
 .rw[if_neg h];exact⟨λh'=>absurd h' U,λh'=>absurd h' h⟩
section
variable {h:AH}{Q:Value->AH->Prop}{Fa F F1 F2:Nat->Prop}{g:Nat}{N:ab}{p:List (List Int)}{c:Nat}{A1 A2:Option Addr}{n1 n2 K1 K2:Nat}
theorem DO (G:eA h Fa F g N) (s1:Sa cI F1 h A1 n1 K1 (ints (N.ins p 1 c))) (s2:Sa cI F2 h A2 n2 K2 (ints (N.outs p 1 c)))
  (hK:∀(L:List Nat) (S:List (List bw)) (sb:Nat) (A':Option Addr) (K':Nat) (h':AH),gY N p c L L.length S->j6 h' 224 #[μ (ξ ⟨sb,0,ψ⟩)] L.length (cO S)->Sa cI (λb=>h.next<=b) h' A' n1 K' (ints (List.range n1))->Nw h h'->
   Q (.agg #[η ν (L.length:Int),ω A' n1 K',.func (.func 224) #[] #[μ (ξ ⟨sb,0,ψ⟩)]]) h') :
  WC Tryz.prog 152 [μ (ξ ⟨g,0,ψ⟩),.agg #[ω A1 n1 K1,ω A2 n2 K2]] h Q:=by
 have hna:=G.few.2;have hl1:(N.ins p 1 c).length=n1:=by simpa[ints]using s1.len
 have hl2:(N.outs p 1 c).length=n2:=by simpa[ints]using s2.len
 have hn1:n1<=1000:=by rw[<-hl1];exact Nat.le_trans (aE _ _) hna
 have hn2:n2<=1000:=by rw[<-hl2];exact Nat.le_trans (aE _ _) hna
 have hasc:(N.ins p 1 c).Pairwise (· < ·):=aX _ _;refine qa λh1 e1 h2 e2=>?_;obtain⟨k1,g1,z1⟩:=aj e1;obtain⟨k2,g2,z2⟩:=aj e2;have gb:Bk h2 h.next [ω A1 n1 K1,ω A2 n2 K2] 113:=k2.bk U g1;have G2:=G.nw (k1.trans k2);have s22:=s2.nw (k1.trans k2);refine⟨_,_,_,aa (k2.bk U g1) rfl,DM (s1.nw (k1.trans k2)) U λA4 K4 h3 o3 k3 hA4=>⟨_,_,_,rfl,λh4 e4=>?_⟩⟩;obtain⟨k4,g4,z4⟩:=aj e4;have z3:=k3.next;have o3lt:∀b,ah A4 b->b<h3.next:=λb hb=>o3.own hb;refine⟨λm x h5=>∃i:Nat,x=i/\i<=n1/\m=n1 - i/\dP kN h5 h3.next (vu ((N.ins p 1 c).take i))/\h5.next=h4.next/\∀b,b≠h3.next->h5.get b=h4.get b,n1,⟨0,rfl,Nat.zero_le _,rfl,by
  have:vu ((N.ins p 1 c).take 0)=λ_=>none:=by funext x;simp[vu]
  rw[this];exact dP.new g4,rfl,λ_ _=>rfl⟩,?_⟩
 rintro m x h5 ⟨i,rfl,hi,rfl,m5,z5,q5⟩;have k5:Nw h3 h5:=⟨U,λb hb=>(q5 b U).trans (k4.get b hb)⟩;refine⟨λhlt=>?_,λhge=>?_⟩
 .have hil:i<n1:=U;obtain⟨b1,o1,x2,hA4',-,-,hx,e0⟩:=(o3.nw k5).sa.int (k:=i) hil;obtain⟨a,ha⟩:∃a,(N.ins p 1 c)[i]? = ξ a:=⟨_,List.getElem?_eq_getElem U⟩;have hxa:x2=(a:Int):=by simp[ints,ha]at hx;exact hx.symm
  subst hxa;have hni:a ∉ (N.ins p 1 c).take i:=λhm=>by
   obtain⟨j,hj,he⟩:=List.mem_take_iff_getElem.1 hm;have h2:(N.ins p 1 c)[j]? = ξ a:=by rw[List.getElem?_eq_getElem U,he]
   have:=fE hasc h2 ha;omega
  obtain⟨h6,y1,y2,y3,y4⟩:=wM m5 hni;have hlen:((N.ins p 1 c).take i).length=i:=by rw[List.length_take];omega
  rw[hlen]at y1;refine⟨i,rfl,b1,o1,hA4',hil,_,e0,h6,y1,_,af U U,n1 - (i+1),U,i+1,U,U,rfl,?_,U,λb hb=>(y4 b hb).trans (q5 b hb)⟩;rw[List.take_add_one,ha];exact y2
 obtain rfl:i=n1:=U;rw[List.take_of_length_le U]at m5;clear hge hi;intro h7 e7;obtain⟨k7,g7,z7⟩:=aj e7;have hpm:h3.next<h5.next:=U;have B7:AB h2 N p c h3.next h5.next (λ_=>False) ψ 0 0 [] h7 A4 i K4 (N.ins p 1 c):=by
  have w7:=k5.trans k7;refine⟨k3.trans w7,gY.start N p c,hl1,o3.nw w7,m5.keep (k7.get _ U),g7,al.nil _ _ _ _,λb hb=>hb.elim,λb hb=>?_,U⟩;have:=hA4 b hb;have:=o3lt b hb;exact⟨U,U,U,id⟩
 refine⟨λm A5 n5 K5 x h8=>∃(j:Nat) (L:List Nat) (S:List (List bw)) (A14:Option Addr) (K14:Nat) (D:Nat->Prop),x=j/\m=N.na - j/\AB h2 N p c h3.next h5.next D A14 K14 j S h8 A5 n5 K5 L/\∀r∈S,r.length<=1000,N.na,⟨0,_,_,_,_,_,rfl,rfl,B7,by simp⟩,?_⟩;rintro m A5 n5 K5 x h8 ⟨j,L,S,A14,K14,D,rfl,rfl,B8,hS⟩;have hLna:=B8.fld.len;have hLn:=B8.len;refine⟨λhlt=>?_,λhge=>?_⟩
 .have hj:j<n5:=U;obtain⟨b2,o2,x5,rfl,-,-,hx,e0⟩:=B8.arcs.sa.int (k:=j) hj;obtain⟨a,ha⟩:∃a,L[j]? = ξ a:=⟨_,List.getElem?_eq_getElem U⟩;have hxa:x5=(a:Int):=by simp[ints,ha]at hx;exact hx.symm
  subst hxa;have han:=(B8.fld.mem a (List.mem_of_getElem? ha)).1;have hto:=(ab.to_lt G.ok han).1;refine⟨j,rfl,b2,o2,rfl,hj,_,e0,zU (G2.nw B8.nw) han ⟨_,rfl,BM (G2.nw B8.nw) hto λA6 K6 h10 s6 k6=>⟨_,_,_,rfl,?_⟩⟩⟩;have hfl:(N.from_ (N.to a)).length<=1000:=Nat.le_trans (aE _ _) hna;obtain⟨bs,hbs⟩:∃bs,N.from_ (N.to a)=bs:=⟨_,rfl⟩;rw[hbs]at s6 hfl⊢;have B10:=B8.next k6;have hDt:∀b,D b->b<h10.next:=λb hb=>(B10.dlo b hb).2.1;obtain⟨t1,t2,t3,t4,t5⟩:=B10.pos;refine⟨λm A7 n7 K7 A8 n8 K8 x h11=>∃(q:Nat) (L':List Nat),x=q/\q<=bs.length/\m=bs.length - q/\AB h2 N p c h3.next h5.next D A14 K14 j S h11 A7 n7 K7 L'/\L'[j]? = ξ a/\(∀b∈bs.take q,N.aIn (N.outs p 1 c) a b->b∈L')/\al aN h11 (ah A8) 366 A8 n8 K8 (N.aRow (N.outs p 1 c) L' a (bs.take q))/\(∀b,ah A8 b->h10.next<=b/\¬ah A7 b)/\Nw h10 h10/\h10.next<=h11.next/\Sa cI (λb=>h8.next<=b/\b<h10.next/\¬ah (ξ ⟨b2,o2,ψ⟩) b) h11 A6 bs.length K6 (ints bs)/\(∀b,ah A7 b->ah (ξ ⟨b2,o2,ψ⟩) b\/h10.next<=b),bs.length,⟨0,L,rfl,Nat.zero_le _,rfl,B10,ha,by simp,al.nil _ _ _ _,λb hb=>hb.elim,Nw.refl _,Nat.le_refl _,s6.mono λb hb hlt=>⟨hb,hlt,λho=>by have:=B8.arcs.own ho;omega⟩,λb hb=>.inl hb⟩,?_⟩;rintro m A7 n7 K7 A8 n8 K8 x h11 ⟨q,L',rfl,hq,rfl,B11,ha',hcl,o8,u8,-,hz11,s11,hA7⟩;have hn8:n8<=1000:=by
   have h1:=o8.len;have h2:=uQ N (N.outs p 1 c) L' a (bs.take q);have h3:(bs.take q).length<=bs.length:=by rw[List.length_take];omega
   omega
  refine⟨λhlt=>?_,λhge=>?_⟩
  .have hql:q<bs.length:=U;obtain⟨b3,o3',x8,hA6,-,-,hx8,f0⟩:=s11.int (k:=q) hql;obtain⟨b,hb⟩:∃b,bs[q]? = ξ b:=⟨_,List.getElem?_eq_getElem U⟩;have hxb:x8=(b:Int):=by simp[ints,hb]at hx8;exact hx8.symm
   subst hxb;have hbn:b<N.na:=((ab.mem_from G.ok).1 (by rw[hbs];exact List.mem_of_getElem? hb)).1;have tb:=ab.turn_bd G.ok a b;have wb:=ab.w_bd G.ok b;refine⟨q,rfl,b3,o3',hA6,hql,_,f0,BN (G2.nw B11.nw) han hbn λh12 k12=>⟨_,rfl,jf (G2.nw (B11.nw.trans k12)) hbn ⟨_,rfl,?_⟩⟩⟩;have B12:=B11.next k12;have o12:=o8.nw k12;have s12:=s11.nw k12;have hz12:=k12.next;have hrow:=qY (N:=N) (outs:=N.outs p 1 c) (L:=L') (a:=a) hb;have w1:IntKind.i64.wrap ((q:Int)+1)=((q+1:Nat):Int):=by rw[Int.natCast_succ];exact af U U
   have skip:N.aStep (N.outs p 1 c) L' a b=ψ->¬N.aIn (N.outs p 1 c) a b->∃x11:Int,IntKind.i64.wrap ((q:Int)+1)=x11/\∃m':Nat,m' < bs.length - q/\∃(q':Nat) (L'':List Nat),x11=q'/\q'<=bs.length/\m' = bs.length - q'/\AB h2 N p c h3.next h5.next D A14 K14 j S h12 A7 n7 K7 L''/\L''[j]? = ξ a/\(∀b∈bs.take q',N.aIn (N.outs p 1 c) a b->b∈L'')/\al aN h12 (ah A8) 366 A8 n8 K8 (N.aRow (N.outs p 1 c) L'' a (bs.take q'))/\(∀b,ah A8 b->h10.next<=b/\¬ah A7 b)/\Nw h10 h10/\h10.next<=h12.next/\Sa cI (λb=>h8.next<=b/\b<h10.next/\¬ah (ξ ⟨b2,o2,ψ⟩) b) h12 A6 bs.length K6 (ints bs)/\(∀b,ah A7 b->ah (ξ ⟨b2,o2,ψ⟩) b\/h10.next<=b):=λhs hi=>by
    refine⟨_,w1,bs.length - (q+1),U,q+1,L',rfl,hql,rfl,B12,ha',λy hy hin=>?_,?_,u8,Nw.refl _,U,s12,hA7⟩
    .rw[List.take_add_one,hb]at hy;rcases List.mem_append.1 hy with hy | hy
     .exact hcl y hy hin
     .simp at hy;subst hy;exact absurd hin hi
    .rw[hrow,hs];simpa using o12
   refine⟨λhge=>?_,λhlt2=>?_⟩
   .exact skip (by unfold ab.aStep;rw[if_pos hge]) (λhin=>by have:=hin.1;unfold an at this;omega)
   have ht:N.turn a b<an:=Int.not_le.1 hlt2;refine⟨_,_,_,aa (B12.nw.bk U gb) rfl,iM b (s22.nw B12.nw) (aX _ _) U ⟨_,rfl,λhpl=>?_,λhpl=>?_⟩⟩
   ·
    have hbo:=dk.1 hpl;have hplI:bK (N.outs p 1 c) b=(((N.outs p 1 c).idxOf b:Nat):Int):=by unfold bK;rw[if_pos hbo]
    rw[hplI];intro h15 e15;obtain⟨A10,K10,h16,y1,y2,y3,y4,y5⟩:=ny o12 U (0,(((N.outs p 1 c).idxOf b:Nat):Int),N.turn a b) e15;refine⟨A10,n8+1,K10,h16,y1,_,w1,bs.length - (q+1),U,q+1,L',rfl,hql,rfl,B12.off y3 u8 ⟨t4,t5,hDt⟩,ha',λy hy hin=>?_,?_,λz hz=>?_,Nw.refl _,U,s12.off y3 λz hz ho=>by have:=(u8 z ho).1;omega,hA7⟩
    .rw[List.take_add_one,hb]at hy;rcases List.mem_append.1 hy with hy | hy
     .exact hcl y hy hin
     .simp at hy;subst hy;exact absurd hbo hin.2.1
    .rw[hrow,qZ ht hbo];exact y2
    .rcases y5 z hz with h9 | h9
     .exact u8 z h9
     .exact⟨U,λho=>by have:=B12.arcs.own ho;omega⟩
   have hbo:b ∉ N.outs p 1 c:=λhm=>hpl (dk.2 hm);refine⟨λhwge=>?_,λhwlt=>?_⟩
   .exact skip (by unfold ab.aStep;rw[if_neg hlt2,if_neg hbo,if_pos hwge]) (λhin=>by have:=hin.2.2;unfold an at this;omega)
   have hw:N.w b<an:=Int.not_le.1 hwlt;have hin:N.aIn (N.outs p 1 c) a b:=⟨ht,hbo,hw⟩;have wc:IntKind.i64.wrap (N.turn a b+N.w b)=N.turn a b+N.w b:=af U (by unfold an at ht hw;omega);refine⟨_,_,ye B12.map_ b,λhbL=>?_,λhbL=>?_⟩
   ·
    have hbm:b∈L':=of_decide_eq_true hbL;rw[if_pos hbm];refine⟨_,wc,λh17 e17=>?_⟩;obtain⟨A10,K10,h16,y1,y2,y3,y4,y5⟩:=ny o12 U (((L'.idxOf b:Nat):Int),-1,N.turn a b+N.w b) e17;refine⟨A10,n8+1,K10,h16,y1,_,w1,bs.length - (q+1),U,q+1,L',rfl,hql,rfl,B12.off y3 u8 ⟨t4,t5,hDt⟩,ha',λy hy hin'=>?_,?_,λz hz=>?_,Nw.refl _,U,s12.off y3 λz hz ho=>by have:=(u8 z ho).1;omega,hA7⟩
    .rw[List.take_add_one,hb]at hy;rcases List.mem_append.1 hy with hy | hy
     .exact hcl y hy hin'
     .simp at hy;subst hy;exact hbm
    .rw[hrow,pd hin];exact y2
    .rcases y5 z hz with h9 | h9
     .exact u8 z h9
     .exact⟨U,λho=>by have:=B12.arcs.own ho;omega⟩
   ·
    have hbm:b ∉ L':=of_decide_eq_false hbL;obtain⟨h19,u1,u2⟩:=B12.grow G.ok U ha' hin hbm;refine⟨h19,u1,λh20 e20=>?_⟩;obtain⟨A12,K12,h21,v1,B21,v2,v3,v4⟩:=u2 h20 e20;have o21:al aN h21 (ah A8) 366 A8 n8 K8 (N.aRow (N.outs p 1 c) L' a (bs.take q)):=o12.keep (λz hz hlt=>v4 z hlt (λe=>by have:=(u8 z hz).1;omega) (u8 z hz).2) v3;refine⟨A12,n7+1,K12,h21,v1,_,wc,λh22 e22=>?_⟩;obtain⟨A10,K10,h23,y1,y2,y3,y4,y5⟩:=ny o21 U ((n7:Int),-1,N.turn a b+N.w b) e22;have h8':∀z,ah A8 z->h10.next<=z/\¬ah A12 z:=λz hz=>⟨(u8 z hz).1,λho=>(v2 z ho).elim (u8 z hz).2 λh=>by have:=o12.own hz;omega⟩;have s21:=s12.keep (λz hz hlt=>v4 z hlt (λe=>hz.2.2 ((by subst e;exact absurd hz.1 (by have:=B8.pos;omega)))) (λho=>(hA7 z ho).elim hz.2.2 λh=>U)) v3;have hl7:=B12.len;refine⟨A10,n8+1,K10,h23,y1,_,w1,bs.length - (q+1),U,q+1,L' ++ [b],rfl,hql,rfl,B21.off y3 h8' ⟨t4,t5,hDt⟩,by rw[List.getElem?_append_left (List.getElem?_eq_some_iff.1 ha').1];exact ha',λy hy hin'=>?_,?_,λz hz=>?_,Nw.refl _,U,s21.off y3 λz hz ho=>by have:=(u8 z ho).1;omega,λz hz=>(v2 z hz).elim (hA7 z) λh=>.inr U⟩
    .rw[List.take_add_one,hb]at hy;rcases List.mem_append.1 hy with hy | hy
     .exact List.mem_append_left _ (hcl y hy hin')
     .simp at hy;subst hy;simp
    .rw[qY hb,pd hin,uA hcl,List.idxOf_append,if_neg hbm];have:L'.length=n7:=hl7;simpa[this]using y2
    .rcases y5 z hz with h9 | h9
     .exact h8' z h9
     .exact⟨U,λho=>by have:=B21.arcs.own ho;omega⟩
  ·
   obtain rfl:q=bs.length:=U;rw[List.take_length]at hcl o8;refine⟨_,_,_,aa B11.sbx rfl,λh24 e24=>?_⟩;obtain⟨k24,g24,z24⟩:=aj e24;have own24:=B11.stp.nw k24;have hz:Sz (Rc.slice aN) (λz=>z=h11.next\/ah A8 z) h24 (ξ ⟨h11.next,0,ψ⟩) 1 2 [N.aRow (N.outs p 1 c) L' a bs]:=
    Sz.one g24 (.inl rfl) U rfl ⟨A8,n8,K8,rfl,(o8.nw k24).sa.mono λz hz _=>.inr hz⟩
   have hi14:j<=1000:=by have:=B11.fld.le;have:=B11.fld.len;omega
   have nD:∀{z},D z->z<h10.next:=λhd=>hDt _ hd;have h14D:∀z,ah A14 z->D z:=λz hz=>(B11.stp.lt hz).1;obtain⟨A15,K15,h25,y1,y2,y3,y4⟩:=gq (r:=Rc.slice aN) (bytes:=24) HK own24 hz (λz hz ho=>by
    have:=nD (h14D z ho);rcases hz with h9 | h9
    .omega
    .have:=(u8 z h9).1;omega) U U
   obtain⟨p1,p2,p3,p4,p5⟩:=B11.pos;have z25:=y3.next;have sb25:Bk h25 h5.next [ω A14 j K14] 363:=y3.bk U (λho=>(B11.dlo _ (h14D _ ho)).2.2.2 rfl) (k24.bk p5 B11.sbx);obtain⟨h26,s26,b26,z26,o26⟩:=aD (v:=ω A15 (j+1) K15) sb25 (o:=0) (by simp) rfl;have same:∀z,z<h11.next->z≠h5.next->¬ah A14 z->h26.get z=h11.get z:=λz hz h1 h2=>(o26 z h1).trans ((y3.get z U h2).trans (k24.get z hz));have w1:IntKind.i64.wrap ((j:Int)+1)=((j+1:Nat):Int):=by rw[Int.natCast_succ];exact af U U
   refine⟨A15,j+1,K15,h25,y1,h26,s26,_,w1,N.na - (j+1),by have:=B11.fld.le;have:=B11.fld.len;omega,j+1,L',S ++ [N.aRow (N.outs p 1 c) L' a bs],A15,K15,λb=>(D b\/(b=h11.next\/ah A8 b)\/b=h24.next)/\b<h25.next,rfl,rfl,⟨⟨by have:=B11.nw.next;omega,λz hz=>(same z (by have:=B11.nw.next;omega) U (λho=>by have:=(B11.dlo z (h14D z ho)).1;omega)).trans (B11.nw.get z hz)⟩,by rw[<-hbs];exact B11.fld.next G.ok ha' (by rw[hbs];exact hcl),B11.len,?_,?_,b26,?_,λz hz=>?_,λz hz=>?_,U⟩,λr hr=>?_⟩
   .exact B11.arcs.keep (λz hz hlt=>same z hlt (B11.alo z hz).2.2.1 (λho=>(B11.alo z hz).2.2.2 (h14D z ho))) U
   .exact B11.map_.keep (same _ U U (λho=>(B11.dlo _ (h14D _ ho)).2.2.1 rfl))
   .refine(y2.mono (D':=λb=>(D b\/(b=h11.next\/ah A8 b)\/b=h24.next)/\b<h25.next) λz hz hlt=>⟨hz,hlt⟩).keep (λz hz hlt=>o26 z ?_) U;rcases hz.1 with h9 | (h9 | h9) | h9
    .exact(B11.dlo z h9).2.2.2
    .omega
    .have:=(u8 z h9).1;omega
    .omega
   .have e2:=hz.2;rcases hz.1 with h9 | (h9 | h9) | h9
    .have:=B11.dlo z h9;omega
    .omega
    .have:=(u8 z h9).1;omega
    .omega
   .obtain⟨a1,a2,a3,a4⟩:=B11.alo z hz;have:=B11.arcs.own hz;refine⟨a1,a2,a3,λh9=>?_⟩;rcases h9.1 with h9 | (h9 | h9) | h9
    .exact a4 h9
    .omega
    .exact(u8 z h9).2 hz
    .omega
   .rcases List.mem_append.1 hr with hr | hr
    .exact hS r hr
    .simp at hr;subst hr;have:=uQ N (N.outs p 1 c) L' a bs;omega
 ·
  have hjL:j=L.length:=by have:=B8.fld.le;omega
  intro h27 e27;obtain⟨h28,s28,k28,g28,z28⟩:=aC (vs:=[η ν n5,ω ψ 0 0,.nilFunc]) e27 rfl (eC rfl rfl rfl);have nw28:=B8.nw.trans k28;obtain⟨p1,p2,p3,p4,p5⟩:=B8.pos;refine⟨h28,s28,_,_,_,aa (nw28.bk U gb) rfl,λm x h29=>∃(q:Nat) (A17:Option Addr) (K17:Nat),x=q/\q<=i/\m=i - q/\Bk h29 h8.next [η ν n5,ω A17 q K17,.nilFunc] 277/\al cI h29 (ah A17) 3 A17 q K17 (ints (List.range q))/\(∀b,ah A17 b->h28.next<=b)/\h28.next<=h29.next/\(∀b,b<h28.next->b≠h8.next->h29.get b=h28.get b),i,⟨0,ψ,0,rfl,Nat.zero_le _,rfl,g28,al.nil _ _ _ _,λb hb=>hb.elim,Nat.le_refl _,λ_ _ _=>rfl⟩,?_⟩;rintro m x h29 ⟨q,A17,K17,rfl,hq,rfl,b29,o29,lo29,hz29,q29⟩;refine⟨λhlt=>?_,λhge=>?_⟩
  .refine⟨_,_,_,aa b29 rfl,λh30 e30=>?_⟩;obtain⟨k30,g30,z30⟩:=aj e30;have hz:Sz cI (λz=>z=h29.next) h30 (ξ ⟨h29.next,0,ψ⟩) 1 2 [(q:Int)]:=Sz.one g30 rfl U rfl rfl;obtain⟨A18,K18,h31,y1,y2,y3,y4⟩:=aV (cE _) (r:=cI) dC (o29.nw k30) hz U U;have z31:=y3.next;have b31:Bk h31 h8.next [η ν n5,ω A17 q K17,.nilFunc] 277:=y3.bk U (λho=>by have:=lo29 _ ho;omega) (k30.bk U b29);obtain⟨h32,s32,b32,z32,o32⟩:=aD (v:=ω A18 (q+1) K18) b31 (o:=1) (by simp) rfl;have lo18:∀z,ah A18 z->h28.next<=z:=λz hz=>(y4 z hz).elim (lo29 z) (λh=>U);refine⟨A18,q+1,K18,h31,y1,h32,s32,_,af U U,i - (q+1),U,q+1,A18,K18,U,U,rfl,b32,?_,lo18,U,λz hz hne=>(o32 z hne).trans ((y3.get z U (λho=>by have:=lo29 _ ho;omega)).trans ((k30.get z U).trans (q29 z hz hne)))⟩;have:ints (List.range (q+1))=ints (List.range q) ++ [(q:Int)]:=by simp[ints,List.range_succ]
   rw[this];exact y2.keep (λz hz _=>o32 z (by have:=lo18 z hz;omega)) U
  .obtain rfl:q=i:=U;obtain⟨h33,s33,b33,z33,o33⟩:=aD (v:=.func (.func 224) #[] #[μ (ξ ⟨h5.next,0,ψ⟩)]) b29 (o:=2) (by simp) rfl;have f33:Bk h33 h1.next [η ν 0,ω ψ 0 0,.nilFunc] 277:=(o33 _ U).trans ((q29 _ U U).trans (nw28.bk U g2));obtain⟨h34,s34,b34,z34,o34⟩:=bL (vs:=[η ν n5,ω A17 q K17,.func (.func 224) #[] #[μ (ξ ⟨h5.next,0,ψ⟩)]]) f33 rfl (eC rfl rfl rfl);have same:∀z,z<h28.next->z≠h8.next->z≠h1.next->h34.get z=h28.get z:=λz hz h1 h2=>(o34 z h2).trans ((o33 z h1).trans (q29 z hz h1));refine⟨h33,s33,_,_,_,_,_,_,bX b33 (by simp),h34,s34,_,_,_,_,_,_,bX b34 (by simp),?_⟩;have hnw:Nw h h34:=⟨U,λz hz=>(same z U U U).trans ((nw28.get z U).trans ((k1.trans k2).get z hz))⟩;have hA17:Sa cI (λb=>h.next<=b) h34 A17 q K17 (ints (List.range q)):=((o29.keep (λz hz _=>(o34 z (by have:=lo29 z hz;omega)).trans (o33 z (by have:=lo29 z hz;omega))) U).sa).mono λz hz _=>by have:=lo29 z hz;omega
   have hsb:Bk h34 h5.next [ω A14 j K14] 363:=(same _ U U U).trans (k28.bk p5 B8.sbx);have hst:Sa (Rc.slice aN) D h34 A14 j K14 S:=B8.stp.sa.keep (λz hz hlt=>(same z U U (by have:=(B8.dlo z hz).1;omega)).trans (k28.get z hlt)) U;have hnx:j6 h34 224 #[μ (ξ ⟨h5.next,0,ψ⟩)] j (cO S):=Cb U (aa hsb rfl) hst (λr hr=>by have:=hS r hr;omega);have hfl:=B8.fld;rw[hjL]at hnx hfl;have:=hK L S h5.next A17 K17 h34 hfl hnx hA17 hnw;rw[hLn]at this;exact this
end
end Eva
end
section
open Go Go.RowKit
def lf (costs:List Int) (first:Nat) (ls:List bw) (j:Nat):List bw:=(List.range j).filterMap (gk costs first ls)
theorem hY (costs:List Int) (first:Nat) (ls:List bw) (j:Nat):lf costs first ls (j+1)=lf costs first ls j ++ (gk costs first ls j).toList:=by
 unfold lf;rw[List.range_succ,List.filterMap_append];cases h:gk costs first ls j <;>simp[List.filterMap_cons,h]
theorem wN (costs:List Int) (first:Nat) (ls:List bw){j n:Nat}(h:j<=n):∃M,lf costs first ls n=lf costs first ls j ++ M:=by
 induction n with
 | zero=>obtain rfl:=Nat.le_zero.1 h;exact⟨[],by simp⟩
 | succ n ih=>
  rcases Nat.eq_or_lt_of_le h with rfl | h1
  .exact⟨[],by simp⟩
  .obtain⟨M,hM⟩:=ih U;exact⟨M ++ (gk costs first ls n).toList,by rw[hY,hM,List.append_assoc]⟩
theorem zF {costs:List Int}{first:Nat}{ls:List bw}{j:Nat}{s:bw}(hj:j<ls.length) (h:gk costs first ls j=ξ s):(pe costs first ls)[(lf costs first ls j).length]? = ξ s:=by
 obtain⟨M,hM⟩:=wN costs first ls (show j+1<=ls.length from hj)
 rw[hY,h]at hM;show(lf costs first ls ls.length)[_]? = _;rw[hM,List.append_assoc,List.getElem?_append_right (Nat.le_refl _),Nat.sub_self];rfl
theorem Cc {N:ab}{p:List (List Int)}{k c:Nat}{ks:List Nat}(hK:fR N p k c ks) (hok:N.Ok) (hp:aB N.nv p) (hk:2<=k) (hkl:k<=p.length){d m:Nat}(hd:d∈ks) (hm:m∈N.outs p (k - 1) d) (hn:m ∉ N.outs p k c):m∈N.LK p k ks ks.length:=by
 obtain⟨g1,g2,g3⟩:=ab.mem_outs.1 hm;obtain⟨v,v1,v2,v3⟩:=(hK.mem d).1 hd;have hf:=(ab.fr_lt hok g1).1;have e1:ap p k (N.fr m)=ap p k v:=cX hp (l:=k - 1) U U hkl hf v1 (g2.trans v3.symm);have e2:ap p k (N.to m)=c:=by
  by_cases e:ap p k (N.to m)=c
  .exact e
  .exact absurd (ab.mem_outs.2 ⟨g1,e1.trans v2,e⟩) hn
 exact(hK.in_kid hok hp hk hkl).2 ⟨g1,e2,rfl,by rw[g2];exact λh=>g3 h.symm⟩
namespace Eva
section
variable {h h0:AH}{Q:Value->AH->Prop}{F F1 F2 F3:Nat->Prop}{A1 A2 A3:Option Addr}{n n2 n3 K1 K2 K3:Nat}
theorem Cd {spots:List (Int×Int)}{lists:List (List bw)}{costs:List Int}{sp lb cb:Nat}(hlt:sp<h0.next/\lb<h0.next/\cb<h0.next) (b1:ldC h0 sp 0=ξ (ω A1 n K1)) (s1:Sa Dz F1 h0 A1 n K1 spots) (b2:ldC h0 lb 0=ξ (ω A2 n2 K2)) (s2:Sa (Rc.slice aN) F2 h0 A2 n2 K2 lists) (b3:ldC h0 cb 0=ξ (ω A3 n3 K3)) (s3:Sa cI F3 h0 A3 n3 K3 costs)
  (hn3:n3<=1000000) (hsp:∀x∈spots,∃i r,x.2=((i:Nat):Int)/\lists[i]? = ξ r/\r.length<=100000/\(r = []\/(0<=x.1/\x.1.toNat+r.length<=n3))) (hc:∀c∈costs,0<=c) (hl:∀r∈lists,∀s∈r,0<=s.2.2) :
  j6 h0 227 #[μ (ξ ⟨sp,0,ψ⟩),μ (ξ ⟨lb,0,ψ⟩),μ (ξ ⟨cb,0,ψ⟩)] n (λq=>match spots[q]? with | some x=>pe costs x.1.toNat ((lists[x.2.toNat]?).getD []) | none=>[]):=by
 refine⟨by kernel_rfl,λa ha h tg tfb J Q hJn hJs htg htell hJ0 hQ=>?_⟩;have nw0:=hJn 0 h hJ0;obtain⟨ba,oa,x,y,rfl,-,hba,hx,e0,e1⟩:=s1.pair (k:=a) ha;obtain⟨i,r,hi,hr,hrl,hrr⟩:=hsp (x,y) (List.mem_of_getElem? hx);simp only at hi hrr;subst hi;have hin2:i<n2:=by rw[<-s2.len];exact(List.getElem?_eq_some_iff.1 hr).1
 obtain⟨bb,ob,A4,n4,K4,r',rfl,-,hbb,hr',f0,s4⟩:=s2.row (k:=i) hin2;rw[hr]at hr';injection hr' with hr';subst hr';have hn4:r.length=n4:=s4.len;simp only[hx,Int.toNat_natCast,hr,Option.getD_some]at htell hQ;have hcl:=s3.len;refine mQ ⟨sp,0,rfl,_,_,_,(nw0.ldC hlt.1 0).trans b1,a,rfl,_,_,rfl,ha,_,(nw0.ldC hba _).trans e0,lb,0,rfl,_,_,_,(nw0.ldC hlt.2.1 0).trans b2,_,_,_,(nw0.ldC hlt.1 0).trans b1,_,_,rfl,ha,_,(nw0.ldC hba _).trans e1,i,rfl,_,_,rfl,hin2,_,_,_,(nw0.ldC hbb _).trans f0,
  λm z h1=>∃j:Nat,z=j/\j<=n4/\m=n4 - j/\J (lf costs x.toNat r j).length h1,n4,⟨0,rfl,Nat.zero_le _,rfl,hJ0⟩,?_⟩
 rintro m z h1 ⟨j,rfl,hj,rfl,hJ1⟩;refine⟨λhlt'=>?_,λhge=>?_⟩
 .have hjn:j<n4:=U;have nw1:=hJn _ _ hJ1;obtain⟨bt,ot,x5,x6,x7,rfl,-,-,hx5,t0,t1,t2⟩:=(s4.nw nw1).tri (k:=j) hjn;have hx7:0<=x7:=hl r (List.mem_of_getElem? hr) _ (List.mem_of_getElem? hx5);have hx0:0<=x/\x.toNat+r.length<=n3:=hrr.resolve_left (λe=>by rw[e]at hx5;simp at hx5);obtain⟨f,rfl⟩:=Int.eq_ofNat_of_zero_le hx0.1;simp only[Int.toNat_natCast]at hx0 hJ1 htell hQ⊢;refine⟨j,rfl,_,_,rfl,hjn,_,_,_,wE t0 t1 t2,λh2 e2=>?_⟩;obtain⟨h3,q3,k3,g3,z3⟩:=aC (vs:=[η ν x5,η ν x6,η ν x7]) e2 rfl (eC rfl rfl rfl);have nw3:=nw1.trans k3;have w8:IntKind.i64.wrap ((f:Int)+(j:Int))=((f+j:Nat):Int):=by rw[Int.natCast_add];exact af U U
  have w1:IntKind.i64.wrap ((j:Int)+1)=((j+1:Nat):Int):=by rw[Int.natCast_succ];exact af U U
  obtain⟨b8,o8,x10,hA3,-,-,hx10,c0⟩:=(s3.nw nw3).int (k:=f+j) U;have h10:at_ costs (f+j)=x10:=by unfold at_;rw[hx10];rfl
  have hx10n:=hc _ (List.mem_of_getElem? hx10);have hsk:gk costs f r j=ψ->∃x19:Int,IntKind.i64.wrap ((j:Int)+1)=x19/\∃m':Nat,m' < n4 - j/\∃j':Nat,x19=j'/\j'<=n4/\m' = n4 - j'/\J (lf costs f r j').length h3:=λht=>by
   refine⟨_,w1,n4 - (j+1),U,j+1,rfl,U,rfl,?_⟩;rw[hY,ht];simpa using hJs _ _ _ hJ1 k3
  refine⟨h3,q3,_,w8,cb,0,rfl,_,_,_,(nw3.ldC hlt.2.2 0).trans b3,λh=>absurd h U,λ_=>⟨_,_,_,(nw3.ldC hlt.2.2 0).trans b3,_,w8,f+j,rfl,b8,o8,hA3,U,_,c0,λht=>⟨_,aa g3 rfl,λhs=>?_,λhs=>?_⟩,λht=>?_⟩⟩
  .have ht1:gk costs f r j=ξ (x5,x6,x7+x10):=by
    unfold gk;rw[hx5];simp only[h10];rw[if_pos ⟨ht,hs⟩]
   obtain⟨h4,q4,g4,z4,o4⟩:=aD (v:=η ν (x7+x10)) g3 (o:=2) (by simp) rfl;have k4:Nw h1 h4:=⟨by have:=k3.next;omega,λb hb=>(o4 b U).trans (k3.get b hb)⟩;refine⟨_,aa g3 rfl,_,af U U,h4,q4,_,_,_,bX g4 (by simp),htg,?_⟩;refine htell _ (x5,x6,x7+x10) h4 _ (hJs _ _ _ hJ1 k4) (zF U ht1) λh5 hJ5=>⟨rfl,_,w1,n4 - (j+1),U,j+1,rfl,U,rfl,?_⟩;rw[hY,ht1];simpa using hJ5
  .exact hsk (by unfold gk;rw[hx5];simp only[h10];rw[if_neg (λh=>hs h.2)])
  .exact hsk (by unfold gk;rw[hx5];simp only[h10];rw[if_neg (λh=>ht h.1)])
 .obtain rfl:j=r.length:=U;exact hQ h1 hJ1
theorem HL {o:Nat}{N:ab}{p:List (List Int)}(O:eL h F o N p){k d j:Nat}(hk:2<=k) (hkl:k<=p.length) (hd:d<aq p (k - 1)) (hj:j<(N.ins p (k - 1) d).length)
  (hK:∀h',Nw h h'->Q (η ν (N.firstK p k d j)) h'):WC Tryz.prog 41 [μ (ξ ⟨o,0,ψ⟩),η ν ((k - 1:Nat):Int),η ν d,η ν j,η ν 0] h Q:=by
 unfold ab.firstK at hK;rcases Nat.eq_zero_or_pos (N.outs p (k - 1) d).length with h0 | h0
 .have he:N.outs p (k - 1) d = []:=List.eq_nil_of_length_eq_zero h0;rw[if_pos he]at hK;obtain⟨k',rfl⟩:∃k',k=k' + 2:=⟨k - 2,U⟩;have e1:k' + 2 - 1=k' + 1:=rfl;rw[e1]at hd hj h0⊢;have hp6:=O.hp.few;obtain⟨b1,o1,n1,K1,b2,o2,K2,A3,K3,A4,K4,c3,hkn,l1,e2,l2,e3,e4,s3,s4⟩:=O.gate_ (k:=k') U hd;rw[h0]at e4;refine cB (zv O U U hd ⟨_,rfl,λ_=>?_,λh=>Bool.noConfusion h⟩);refine⟨_,_,rfl,_,_,_,c3,_,af U U,k',U,_,_,rfl,hkn,_,_,_,e2,d,rfl,_,_,rfl,hd,_,_,_,_,_,_,qp e3 e4,λh2 e7=>?_⟩;obtain⟨h3,hs3,k3,g3,z3⟩:=aC (vs:=[ω A3 (N.ins p (k' + 1) d).length K3,ω A4 0 K4]) e7 rfl (dH rfl rfl);exact⟨h3,hs3,λh=>absurd h U,λ_=>⟨_,_,_,aa g3 rfl,λh=>absurd h U,λ_=>⟨λh=>absurd h U,λ_=>⟨_,_,_,aa g3 rfl,λ_=>hK _ k3,λh=>absurd (Int.le_refl _) h⟩⟩⟩⟩
 .rw[if_neg (λe=>by rw[e]at h0;simp at h0)]at hK;refine Hf O (j:=0) U U hd hj h0 λh' k'=>?_;have:=hK h' k'
  rwa [Nat.add_zero]
end
end Eva
end
section
open Go Go.RowKit
namespace Eva
theorem If:uH Tryz.prog 113 2 48=true:=by kernel_rfl
theorem HM:uH Tryz.prog 370 2 16=true:=by kernel_rfl
def hZ (N:ab) (p:List (List Int)) (k:Nat) (ks:List Nat) (i:Nat):List (List Int×List Int):=(List.range i).map λj=>(ints (N.ins p (k - 1) ((ks[j]?).getD 0)),ints (N.outs p (k - 1) ((ks[j]?).getD 0)))
theorem uR (N:ab) (p:List (List Int)) (k:Nat) (ks:List Nat) (i:Nat):hZ N p k ks (i+1)=hZ N p k ks i ++ [(ints (N.ins p (k - 1) ((ks[i]?).getD 0)),ints (N.outs p (k - 1) ((ks[i]?).getD 0)))]:=by
 unfold hZ;rw[List.range_succ,List.map_append];rfl
structure KB (h0:AH) (lo pm sb:Nat) (D:Nat->Prop) (A5:Option Addr) (i K5:Nat) (gs:List (List Int×List Int)) (h:AH) (L:List Nat) (sp:List (Int×Int)):Prop where
 nw:Nw h0 h
 gates:al Rc.gate h D 113 A5 i K5 gs
 map_:dP kN h pm (vu L)
 spt:∃A12 K12,Bk h sb [ω A12 L.length K12] 368/\al Dz h (ah A12) 370 A12 L.length K12 sp/\(∀b,ah A12 b->lo<=b/\b≠pm/\b≠sb/\¬D b)
 dlo:∀b,D b->lo<=b/\b<h.next/\b≠pm/\b≠sb
 pos:h0.next<=pm/\h0.next<=sb/\pm≠sb/\pm<h.next/\sb<h.next
 hlo:h0.next<=lo/\lo<=h.next
section
variable {h h' h0:AH}{Q:Value->AH->Prop}{N:ab}{p:List (List Int)}{lo pm sb:Nat}{D:Nat->Prop}{A5:Option Addr}{i K5:Nat}{gs:List (List Int×List Int)}{L:List Nat}{sp:List (Int×Int)}{a:Nat}
theorem KB.next (B:KB h0 lo pm sb D A5 i K5 gs h L sp) (a:Nw h h'):KB h0 lo pm sb D A5 i K5 gs h' L sp:=by
 obtain⟨A12,K12,s1,s2,s3⟩:=B.spt;obtain⟨p1,p2,p3,p4,p5⟩:=B.pos;have z:=a.next;exact⟨B.nw.trans a,B.gates.nw a,B.map_.keep (a.get _ p4),⟨A12,K12,a.bk p5 s1,s2.nw a,s3⟩,λb hb=>by have:=B.dlo b hb;omega,U,by have:=B.hlo;omega⟩
theorem KB.push (B:KB h0 lo pm sb D A5 i K5 gs h L sp) (hn:a ∉ L) (hL:L.length<=2000):∃A12 K12,ldC h sb 0=ξ (ω A12 L.length K12)/\aS (ω A12 L.length K12)/\
  ∃h14,fV Tryz.prog h (ξ (.map 3 3)) (.map (ξ pm)) (η ν (a:Int)) (η ν (L.length:Int))=ξ (undef,h14)/\ldC h14 sb 0=ξ (ω A12 L.length K12)/\h14.next=h.next/\(∀b,b≠pm->h14.get b=h.get b)/\
   ∀h15 x y,Nw h14 h15->ldC h15 sb 0=ξ (ω A12 L.length K12)/\∀h16,h16=AH.new h15 (.cells [η ν x,η ν y] 370 false)->
    ∃A14 K14 h17,ai Tryz.prog h16 (ξ (.slice 370)) (ξ (.slice 370)) (ω A12 L.length K12) (ω (ξ ⟨h15.next,0,ψ⟩) 1 2)=ξ (ω A14 (L.length+1) K14,h17)/\
     ∃h18,iE h17 sb 0 [ω A14 (L.length+1) K14]=ξ h18/\KB h0 lo pm sb D A5 i K5 gs h18 (L ++ [a]) (sp ++ [(x,y)])/\h.next<=h18.next/\(∀b,b<h.next->b≠pm->b≠sb->(b<lo\/D b)->h18.get b=h.get b):=by
 obtain⟨A12,K12,s1,s2,s3⟩:=B.spt;obtain⟨p1,p2,p3,p4,p5⟩:=B.pos;obtain⟨q1',q2'⟩:=B.hlo;obtain⟨h14,x1,x2,x3,x4⟩:=wM B.map_ hn;have sb14:Bk h14 sb [ω A12 L.length K12] 368:=(x4 _ (Ne.symm p3)).trans s1;refine⟨A12,K12,aa s1 rfl,s2.spot,h14,x1,aa sb14 rfl,x3,x4,λh15 x y k15=>⟨aa (k15.bk U sb14) rfl,λh16 e16=>?_⟩⟩;obtain⟨k16,g16,z16⟩:=aj e16;have z15:=k15.next;have o14:al Dz h14 (ah A12) 370 A12 L.length K12 sp:=s2.keep (λb hb _=>x4 b (s3 b hb).2.1) U;have hz:Sz Dz (λz=>z=h15.next) h16 (ξ ⟨h15.next,0,ψ⟩) 1 2 [(x,y)]:=Sz.one g16 rfl U rfl rfl;obtain⟨A14,K14,h17,y1,y2,y3,y4⟩:=aV (zu _ _) (r:=Dz) HM (o14.nw (k15.trans k16)) hz U U;have z17:=y3.next;have sb17:Bk h17 sb [ω A12 L.length K12] 368:=y3.bk U (λho=>(s3 _ ho).2.2.1 rfl) ((k15.trans k16).bk U sb14);obtain⟨h18,q1,q2,q3,q4⟩:=aD (v:=ω A14 (L.length+1) K14) sb17 (o:=0) (by simp) rfl;have same:∀b,b<h.next->b≠pm->b≠sb->¬ah A12 b->h18.get b=h.get b:=λb hb h1 h2 h3=>(q4 b h2).trans ((y3.get b U h3).trans (((k15.trans k16).get b U).trans (x4 b h1)));have nA:∀{b},D b->¬ah A12 b:=λhd ha=>(s3 _ ha).2.2.2 hd;have lo14:∀b,ah A14 b->lo<=b/\b≠pm/\b≠sb/\¬D b:=λb hb=>by
  rcases y4 b hb with h1 | h1
  .exact s3 b h1
  .exact⟨U,U,U,λhd=>by have:=(B.dlo b hd).2.1;omega⟩
 refine⟨A14,K14,h17,y1,h18,q1,⟨⟨by have:=B.nw.next;omega,λb hb=>(same b (by have:=B.nw.next;omega) U U (λho=>by have:=(s3 b ho).1;omega)).trans (B.nw.get b hb)⟩,?_,?_,⟨A14,K14,?_,?_,lo14⟩,λb hb=>by have:=B.dlo b hb;omega,U,U⟩,U,λb hb h1 h2 hd=>same b hb h1 h2 (hd.elim (λhlt ho=>by have:=(s3 _ ho).1;omega) nA)⟩
 .exact B.gates.keep (λb hb hlt=>same b hlt (B.dlo b hb).2.2.1 (B.dlo b hb).2.2.2 (nA hb)) U
 .exact x2.keep ((q4 _ p3).trans ((y3.get _ U (λho=>(s3 _ ho).2.1 rfl)).trans ((k15.trans k16).get _ U)))
 .rw[List.length_append];exact q2
 .rw[List.length_append];exact y2.keep (λb hb _=>q4 b (lo14 b hb).2.2.1) U
end
end Eva
end
section
open Go Go.RowKit
namespace Eva
def DP:Value:=ω ψ 0 0
structure KC (h0:AH) (LB lb n i:Nat) (kl:Nat->List bw) (h:AH) (vals:List Value) (D:Nat->Prop) (A:Option Addr) (m K:Nat) (cur:List bw):Prop where
 nw:Nw h0 h
 blk:Bk h LB (vals ++ ω A m K :: List.replicate (n - (i+1)) DP) 364
 lbx:Bk h lb [ω (ξ ⟨LB,0,ψ⟩) n (cx n)] 363
 vl:vals.length=i/\i<n
 old:∀j v,vals[j]? = ξ v->∃A n K,v = ω A n K/\Sa aN D h A n K (kl j)
 own:al aN h (ah A) 366 A m K cur
 dlo:∀b,D b->h0.next<=b/\b<h.next/\b≠LB/\b≠lb/\¬ah A b
 alo:∀b,ah A b->h0.next<=b/\b≠LB/\b≠lb
 pos:h0.next<=LB/\h0.next<=lb/\LB≠lb/\LB<h.next/\lb<h.next
section
variable {h h' h0:AH}{LB lb n i m K:Nat}{kl:Nat->List bw}{vals:List Value}{D:Nat->Prop}{A:Option Addr}{cur:List bw}
theorem KC.next (C:KC h0 LB lb n i kl h vals D A m K cur) (a:Nw h h'):KC h0 LB lb n i kl h' vals D A m K cur:=by
 obtain⟨p1,p2,p3,p4,p5⟩:=C.pos;have z:=a.next;refine⟨C.nw.trans a,a.bk p4 C.blk,a.bk p5 C.lbx,C.vl,λj v hj=>?_,C.own.nw a,λb hb=>by have:=C.dlo b hb;exact⟨this.1,U,this.2.2⟩,C.alo,U⟩;obtain⟨A',n',K',h1,h2⟩:=C.old j v hj;exact⟨A',n',K',h1,h2.nw a⟩
theorem KC.cell (C:KC h0 LB lb n i kl h vals D A m K cur):ldC h LB (0+i)=ξ (ω A m K):=by
 rw[aT C.blk,Nat.zero_add,List.getElem?_append_right (by rw[C.vl.1];exact Nat.le_refl _),C.vl.1,Nat.sub_self];rfl
theorem KC.push (C:KC h0 LB lb n i kl h vals D A m K cur) (hm:m<=2000) (s:bw):∀h32,h32=AH.new h (.cells [η ν s.1,η ν s.2.1,η ν s.2.2] 366 false)->
  ∃A' K' h33,ai Tryz.prog h32 (ξ (.slice 366)) (ξ (.slice 366)) (ω A m K) (ω (ξ ⟨h.next,0,ψ⟩) 1 2)=ξ (ω A' (m+1) K',h33)/\ldC h33 lb 0=ξ (ω (ξ ⟨LB,0,ψ⟩) n (cx n))/\
   ∃h34,iE h33 LB (0+i) [ω A' (m+1) K']=ξ h34/\KC h0 LB lb n i kl h34 vals D A' (m+1) K' (cur ++ [s]):=by
 intro h32 e32;obtain⟨p1,p2,p3,p4,p5⟩:=C.pos;obtain⟨A',K',h33,y1,y2,y3,y4,y5⟩:=ny C.own hm s e32;have nLB:¬ah A LB:=λho=>(C.alo _ ho).2.1 rfl;have nlb:¬ah A lb:=λho=>(C.alo _ ho).2.2 rfl;have b33:=y3.bk p4 nLB C.blk;have l33:=y3.bk p5 nlb C.lbx;obtain⟨h34,q1,q2,q3,q4⟩:=aD (v:=ω A' (m+1) K') b33 (o:=0+i) (by simp;have:=C.vl;omega) rfl;have lo':∀b,ah A' b->h0.next<=b/\b≠LB/\b≠lb:=λb hb=>(y5 b hb).elim (C.alo b) (λh1=>by have:=C.nw.next;omega);have same:∀b,b<h.next->¬ah A b->b≠LB->h34.get b=h.get b:=λb hb h1 h2=>(q4 b h2).trans (y3.get b hb h1);refine⟨A',K',h33,y1,aa l33 rfl,h34,q1,⟨⟨by have:=C.nw.next;omega,λb hb=>(same b (by have:=C.nw.next;omega) (λho=>by have:=(C.alo b ho).1;omega) U).trans (C.nw.get b hb)⟩,?_,(q4 _ (Ne.symm p3)).trans l33,C.vl,λj v hj=>?_,y2.keep (λb hb _=>q4 b (lo' b hb).2.1) U,λb hb=>?_,lo',U⟩⟩
 .have e:(vals ++ ω A m K :: List.replicate (n - (i+1)) DP).set (0+i) (ω A' (m+1) K')=vals ++ ω A' (m+1) K' :: List.replicate (n - (i+1)) DP:=by
   rw[Nat.zero_add,List.set_append_right _ _ (by rw[C.vl.1];exact Nat.le_refl _),C.vl.1,Nat.sub_self];rfl
  rwa [e]at q2
 .obtain⟨A1,n1,K1,h1,h2⟩:=C.old j v hj;exact⟨A1,n1,K1,h1,h2.keep (λb hb hlt=>same b hlt (C.dlo b hb).2.2.2.2 (C.dlo b hb).2.2.1) U⟩
 .obtain⟨d1,d2,d3,d4,d5⟩:=C.dlo b hb;exact⟨d1,U,d3,d4,λho=>(y5 b ho).elim d5 (λh=>U)⟩
end
section
variable {h:AH}{Q:Value->AH->Prop}{Fa F Fo F1 F2 F3:Nat->Prop}{g o:Nat}{N:ab}{p:List (List Int)}{k c:Nat}{A1 A2 A3:Option Addr}{n1 n2 n3 K1 K2 K3:Nat}{costs:List Int}
theorem DQ (G:eA h Fa F g N) (O:eL h Fo o N p) (hk:2<=k) (hkl:k<=p.length) (hc:c<aq p k) (s1:Sa cI F1 h A1 n1 K1 (ints (N.ins p k c))) (s2:Sa cI F2 h A2 n2 K2 (ints (N.outs p k c))) (s3:Sa cI F3 h A3 n3 K3 costs) (hlen:costs.length=N.size p) (hsz:N.size p<=1000000) (hcb:∀x∈costs,0<=x)
  (hK:∀(ks:List Nat) (A':Option Addr) (K':Nat) (fb:Array Value) (h':AH),fR N p k c ks->j6 h' 227 fb (N.LK p k ks ks.length).length (N.kSteps p k c ks costs)->Sa cI (λb=>h.next<=b) h' A' n1 K' (ints ((N.ins p k c).map λa=>(N.LK p k ks ks.length).idxOf a))->Nw h h'->
   Q (.agg #[η ν ((N.LK p k ks ks.length).length:Int),ω A' n1 K',.func (.func 227) #[] fb]) h') :
  WC Tryz.prog 154 [μ (ξ ⟨g,0,ψ⟩),μ (ξ ⟨o,0,ψ⟩),η ν k,η ν c,.agg #[ω A1 n1 K1,ω A2 n2 K2],ω A3 n3 K3] h Q:=by
 have hna:=G.few.2;have hl1:(N.ins p k c).length=n1:=by simpa[ints]using s1.len
 have hl2:(N.outs p k c).length=n2:=by simpa[ints]using s2.len
 have hn1:n1<=1000:=by rw[<-hl1];exact Nat.le_trans (aE _ _) hna
 have hn2:n2<=1000:=by rw[<-hl2];exact Nat.le_trans (aE _ _) hna
 have hp6:=O.hp.few;have hnv:=O.hp.nv_;have wk:IntKind.i64.wrap ((k:Int) - 1)=((k - 1:Nat):Int):=by rw[Int.natCast_sub U];exact af U U
 refine qb λh1 e1 h2 e2 h3 e3 h4 e4 h5 e5=>?_;obtain⟨k1,g1,z1⟩:=aj e1;obtain⟨k2,g2,z2⟩:=aj e2;obtain⟨k3,g3,z3⟩:=aj e3;obtain⟨k4,g4,z4⟩:=aj e4;obtain⟨k5,g5,z5⟩:=aj e5;have k03:=(k1.trans k2).trans k3;have k35:=k4.trans k5;have G3:=G.nw k03;have O3:=O.nw k03;have cb3:Bk h3 h.next [ω A1 n1 K1,ω A2 n2 K2] 113:=(k2.trans k3).bk U g1;have xb3:Bk h3 h1.next [ω A3 n3 K3] 37:=k3.bk U g2;have s13:=s1.nw k03;have s23:=s2.nw k03;have s33:=s3.nw k03;refine Gx (O3.nw k35) hk hkl hc λA4 n4 K4 ks h6 s6 hKs k6=>⟨_,_,_,rfl,?_⟩;have hn4:ks.length=n4:=by simpa[ints]using s6.len
 subst hn4;have hksn:ks.length<=N.nv:=by
  have h1:=jb (l:=ks) (N:=aq p (k - 1)) (List.Pairwise.imp (λh=>Nat.ne_of_lt h) hKs.asc) (λd hd=>hKs.lt O.hp hk hkl hd);refine Nat.le_trans h1 ?_;obtain⟨row,hr⟩:∃row,p[k - 1 - 1]? = ξ row:=⟨_,List.getElem?_eq_getElem U⟩;have h2:=gu hr;have h3:=dg (row:=row) (n:=(N.nv:Int)) U (λx hx=>(O.hp.inr _ (List.mem_of_getElem? hr) x hx).2);omega
 have hnv1:=G.few.1;have z6:=k6.next;have LKl:∀{i},i<=ks.length->(N.LK p k ks i).length<=1000:=λhi=>Nat.le_trans (BA hKs.asc hi) hna;refine⟨λm A5 n5 K5 x h7=>∃(i:Nat) (D:Nat->Prop),x=i/\n5=i/\i<=ks.length/\m=ks.length - i/\KB h3 h6.next h3.next h4.next D A5 i K5 (hZ N p k ks i) h7 (N.LK p k ks i) (N.spK p k ks i)/\Sa cI (λb=>h5.next<=b/\b<h6.next) h7 A4 ks.length K4 (ints ks),ks.length,⟨0,λ_=>False,rfl,rfl,Nat.zero_le _,rfl,⟨k35.trans k6,al.nil _ _ _ _,?_,⟨ψ,0,(k6.bk U g5),al.nil _ _ _ _,λb hb=>hb.elim⟩,λb hb=>hb.elim,U,U⟩,s6.mono λb hb hlt=>⟨hb,hlt⟩⟩,?_⟩
 .have e0:vu (N.LK p k ks 0)=λ_=>none:=by funext x;simp[vu,ab.LK]
  rw[e0];exact(dP.new g4).keep ((k5.trans k6).get _ U)
 rintro m A5 n5 K5 x h7 ⟨i,D,rfl,rfl,hi,rfl,B7,sK⟩;refine⟨λhlt=>?_,λhge=>?_⟩
 .have hik:n5<ks.length:=U;obtain⟨d,hd⟩:∃d,ks[n5]? = ξ d:=⟨_,List.getElem?_eq_getElem hik⟩;have hdD:(ks[n5]?).getD 0=d:=by rw[hd];rfl
  have hdm:=List.mem_of_getElem? hd;have hdl:=hKs.lt O.hp hk hkl hdm;obtain⟨b1,o1,x4,hA4,-,-,hx4,q4⟩:=sK.int (k:=n5) hik;have hxd:x4=(d:Int):=by simp[ints,hd]at hx4;exact hx4.symm
  subst hxd;refine⟨n5,rfl,b1,o1,hA4,hik,_,q4,_,wk,uI (O3.nw B7.nw) U U hdl λA6 K6 A7 K7 h8 sA sB k8=>⟨_,_,_,_,_,_,rfl,λh9 e9=>?_⟩⟩;obtain⟨ni,hni⟩:∃ni,(N.ins p (k - 1) d).length=ni:=⟨_,rfl⟩;obtain⟨no,hno⟩:∃no,(N.outs p (k - 1) d).length=no:=⟨_,rfl⟩;rw[hni]at sA⊢;rw[hno]at sB⊢;have hni2:ni<=1000:=by rw[<-hni];exact Nat.le_trans (aE _ _) hna
  obtain⟨h10,s10,k10,g10,z10⟩:=aC (vs:=[ω A6 ni K6,ω A7 no K7]) e9 rfl (dH rfl rfl);refine⟨h10,s10,_,_,_,_,_,_,bX g10 (by simp),λh11 e11=>?_⟩;obtain⟨k11,g11,z11⟩:=aj e11;have z8:=k8.next;have B11:=B7.next ((k8.trans k10).trans k11);have hownD:∀b,ah A5 b->D b:=λb hb=>(B7.gates.lt hb).1;have sA11:=((sA.nw k10).nw k11);have sB11:=((sB.nw k10).nw k11);have sAF:Sa cI (λb=>h7.next<=b/\b<h11.next) h11 A6 ni K6 (ints (N.ins p (k - 1) d)):=sA11.mono λb hb hlt=>⟨hb,hlt⟩;have sBF:Sa cI (λb=>h7.next<=b/\b<h11.next) h11 A7 no K7 (ints (N.outs p (k - 1) d)):=sB11.mono λb hb hlt=>⟨hb,hlt⟩;have hz:Sz Rc.gate (λb=>h7.next<=b/\b<h11.next) h11 (ξ ⟨h10.next,0,ψ⟩) 1 2 [(ints (N.ins p (k - 1) d),ints (N.outs p (k - 1) d))]:=
   Sz.one g11 ⟨U,U⟩ U rfl ⟨A6,ni,K6,A7,no,K7,rfl,sAF,sBF⟩
  obtain⟨A10,K10,h12,y1,y2,y3,y4⟩:=gq (r:=Rc.gate) (bytes:=48) If B11.gates hz (λb hb ho=>by have:=(B7.dlo b (hownD b ho)).2.1;omega) U U;have z12:=y3.next;have nO:∀{b},h7.next<=b->¬ah A5 b:=λhb ho=>by have:=(B7.dlo _ (hownD _ ho)).2.1;omega
  refine⟨A10,n5+1,K10,h12,y1,_,_,_,aa (y3.bk U (nO U) (k11.bk U g10)) rfl,?_⟩;obtain⟨A12,K12,t1,t2,t3⟩:=B11.spt;obtain⟨p1,p2,p3,p4,p5⟩:=B11.pos;have B12:KB h3 h6.next h3.next h4.next (λb=>(D b\/(h7.next<=b/\b<h11.next)\/b=h11.next)/\b<h12.next) A10 (n5+1) K10 (hZ N p k ks (n5+1)) h12 (N.LK p k ks n5) (N.spK p k ks n5):=by
   have lo7:=B7.hlo;refine⟨⟨by have:=B11.nw.next;omega,λb hb=>(y3.get b (by have:=B11.nw.next;omega) (λho=>by have:=(B7.dlo b (hownD b ho)).1;omega)).trans (B11.nw.get b hb)⟩,?_,B11.map_.keep (y3.get _ p4 (λho=>(B7.dlo _ (hownD _ ho)).2.2.1 rfl)),⟨A12,K12,y3.bk p5 (λho=>(B7.dlo _ (hownD _ ho)).2.2.2 rfl) t1,t2.keep (λb hb hlt=>y3.get b hlt (λho=>(t3 b hb).2.2.2 (hownD b ho))) U,λb hb=>?_⟩,λb hb=>?_,U,U⟩
   .rw[uR,hdD];exact y2.mono λb hb hlt=>⟨hb,hlt⟩
   .have hb7:b<h7.next:=by
     obtain⟨A12',K12',t1',t2',t3'⟩:=B7.spt;have:ldC h11 h4.next 0=ξ (ω A12' (N.LK p k ks n5).length K12'):=aa (((k8.trans k10).trans k11).bk (by have:=B7.pos;omega) t1') rfl;rw[aa t1 rfl]at this;injection this with this;injection this with e1 e2 e3;subst e1;exact t2'.own hb
    refine⟨(t3 b hb).1,(t3 b hb).2.1,(t3 b hb).2.2.1,λhd=>?_⟩;rcases hd.1 with h9 | h9 | h9
    .exact(t3 b hb).2.2.2 h9
    .omega
    .omega
   .have hpos:=B7.pos;rcases hb.1 with h9 | h9 | h9
    .have:=B7.dlo b h9;omega
    .omega
    .omega
  have sA12:Sa cI (λb=>h7.next<=b/\b<h11.next) h12 A6 ni K6 (ints (N.ins p (k - 1) d)):=sAF.off y3 λb hb=>nO hb.1;have sK12:Sa cI (λb=>h5.next<=b/\b<h6.next) h12 A4 ks.length K4 (ints ks):=((sK.nw (k8.trans k10)).nw k11).off y3 λb hb ho=>by have:=(B7.dlo b (hownD b ho)).1;omega
  have hLn5:=LKl hi;refine⟨λm x h13=>∃j:Nat,x=j/\j<=ni/\m=ni - j/\KB h3 h6.next h3.next h4.next (λb=>(D b\/(h7.next<=b/\b<h11.next)\/b=h11.next)/\b<h12.next) A10 (n5+1) K10 (hZ N p k ks (n5+1)) h13 (N.LK p k ks n5 ++ (N.ins p (k - 1) d).take j) (N.spK p k ks n5 ++ (List.range j).map λj=>(N.firstK p k d j,(n5:Int)))/\Sa cI (λb=>h7.next<=b/\b<h11.next) h13 A6 ni K6 (ints (N.ins p (k - 1) d))/\Sa cI (λb=>h5.next<=b/\b<h6.next) h13 A4 ks.length K4 (ints ks),ni,⟨0,rfl,Nat.zero_le _,rfl,by simpa using B12,sA12,sK12⟩,?_⟩;rintro m x h13 ⟨j,rfl,hj,rfl,B13,sA13,sK13⟩;refine⟨λhlt=>?_,λhge=>?_⟩
  .have hjn:j<ni:=U;obtain⟨b2,o2,x7,hA6,-,-,hx7,r0⟩:=sA13.int (k:=j) hjn;obtain⟨a,ha⟩:∃a,(N.ins p (k - 1) d)[j]? = ξ a:=⟨_,List.getElem?_eq_getElem U⟩;have hxa:x7=(a:Int):=by simp[ints,ha]at hx7;exact hx7.symm
   subst hxa;have hfr:a ∉ N.LK p k ks n5 ++ (N.ins p (k - 1) d).take j:=by
    have:=Bz (N:=N) (p:=p) (k:=k) (ks:=ks) hKs.asc (n:=n5) (j:=j) (a:=a) hik (by rw[hdD];exact ha)
    rwa [hdD]at this
   have hLl:(N.LK p k ks n5 ++ (N.ins p (k - 1) d).take j).length<=2000:=by rw[List.length_append,List.length_take];omega
   obtain⟨A12',K12',u1,u2,h14,u3,u4,u5,u6,u7⟩:=B13.push hfr hLl;obtain⟨P1,P2,P3,P4,P5⟩:=B13.pos;have nw14:Nw h3 h14:=⟨by have:=B13.nw.next;omega,λb hb=>(u6 b U).trans (B13.nw.get b hb)⟩;have w1:IntKind.i64.wrap ((j:Int)+1)=((j+1:Nat):Int):=by rw[Int.natCast_succ];exact af U U
   refine⟨j,rfl,b2,o2,hA6,hjn,_,r0,_,_,_,u1,h14,u3,_,_,_,u4,_,wk,HL (O3.nw nw14) hk hkl hdl U λh15 k15=>⟨_,rfl,?_⟩⟩;obtain⟨v1,v2⟩:=u7 h15 (N.firstK p k d j) (n5:Int) k15;refine⟨v1,u2,λh16 e16=>?_⟩;obtain⟨A14,K14,h17,w2,h18,w3,B18,w4,w5⟩:=v2 h16 e16;refine⟨A14,_,K14,h17,w2,h18,w3,_,w1,ni - (j+1),U,j+1,U,U,rfl,?_,sA13.keep (λb hb hlt=>w5 b hlt (by have:=B7.pos;omega) (by have:=B7.pos;omega) (.inr ⟨.inr (.inl hb),U⟩)) w4,sK13.keep (λb hb hlt=>w5 b hlt U U (.inl U)) w4⟩;have e1:N.LK p k ks n5 ++ (N.ins p (k - 1) d).take (j+1)=N.LK p k ks n5 ++ (N.ins p (k - 1) d).take j ++ [a]:=by rw[List.take_add_one,ha,List.append_assoc];rfl
   have e2:(N.spK p k ks n5 ++ (List.range (j+1)).map λj=>(N.firstK p k d j,(n5:Int)))=(N.spK p k ks n5 ++ (List.range j).map λj=>(N.firstK p k d j,(n5:Int))) ++ [(N.firstK p k d j,(n5:Int))]:=by rw[List.range_succ,List.map_append,List.append_assoc];rfl
   rw[e1,e2];exact B18
  .obtain rfl:j=ni:=U;have w1:IntKind.i64.wrap ((n5:Int)+1)=((n5+1:Nat):Int):=by rw[Int.natCast_succ];exact af U U
   refine⟨_,w1,ks.length - (n5+1),U,n5+1,λb=>(D b\/(h7.next<=b/\b<h11.next)\/b=h11.next)/\b<h12.next,rfl,rfl,U,rfl,?_,sK13⟩;rw[List.take_of_length_le U]at B13;have e1:N.LK p k ks (n5+1)=N.LK p k ks n5 ++ N.ins p (k - 1) d:=by rw[ab.LK,hdD]
   have e2:N.spK p k ks (n5+1)=N.spK p k ks n5 ++ (List.range j).map λj=>(N.firstK p k d j,(n5:Int)):=by rw[ab.spK,hdD,hni]
   rw[e1,e2];exact B13
 .obtain rfl:n5=ks.length:=U;obtain⟨L,hL⟩:∃L,N.LK p k ks ks.length=L:=⟨_,rfl⟩;have hLl:L.length<=1000:=by rw[<-hL];exact LKl (Nat.le_refl _)
  obtain⟨P1,P2,P3,P4,P5⟩:=B7.pos;have cb7:=B7.nw.bk U cb3;have G7:=G3.nw B7.nw;have s27:=s23.nw B7.nw;have m7:=B7.map_;rw[hL]at m7;have sG7:Sa Rc.gate D h7 A5 ks.length K5 (hZ N p k ks ks.length):=B7.gates.sa;refine⟨U,λh19 e19 h20 e20=>?_⟩;obtain⟨k19,g19,z19⟩:=aj e19;rw[a9]at g19;obtain⟨h21,s21,k21,g21,z21⟩:=aC (vs:=[ω (ξ ⟨h7.next,0,ψ⟩) ks.length (cx ks.length)]) e20 rfl (by simp[flat]);refine⟨h21,s21,λm x h22=>∃(i:Nat) (vals:List Value) (D2:Nat->Prop),x=i/\i<=ks.length/\m=ks.length - i/\Nw h7 h22/\Bk h22 h7.next (vals ++ List.replicate (ks.length - i) DP) 364/\Bk h22 h19.next [ω (ξ ⟨h7.next,0,ψ⟩) ks.length (cx ks.length)] 363/\vals.length=i/\(∀j v,vals[j]? = ξ v->∃A n K,v = ω A n K/\Sa aN D2 h22 A n K (N.kList p k c ks j))/\(∀b,D2 b->h7.next<=b/\b<h22.next/\b≠h7.next/\b≠h19.next)/\h19.next<h22.next,ks.length,⟨0,[],λ_=>False,rfl,Nat.zero_le _,rfl,k19.trans k21,k21.bk U g19,g21,rfl,by simp,λb hb=>hb.elim,U⟩,?_⟩;rintro m x h22 ⟨i,vals,D2,rfl,hi,rfl,k22,b22,l22,hvl,hold,hD2,hl22⟩;refine⟨λhlt=>?_,λhge=>?_⟩
  .have hik:i<ks.length:=U;obtain⟨d,hd⟩:∃d,ks[i]? = ξ d:=⟨_,List.getElem?_eq_getElem hik⟩;have hdD:(ks[i]?).getD 0=d:=by rw[hd];rfl
   have hdm:=List.mem_of_getElem? hd;have hkl1:N.kList p k c ks i=(N.outs p (k - 1) d).map (N.kStep p k c L):=by unfold ab.kList;rw[hdD,hL]
   obtain⟨b3,o3,A15,n15,K15,A16,n16,K16,gx,gy,hA5,-,-,hgx,q1,q2,s15,s16⟩:=(sG7.nw k22).gate (k:=i) hik;have hgy:gx=ints (N.ins p (k - 1) d)/\gy=ints (N.outs p (k - 1) d):=by
    unfold hZ at hgx;rw[List.getElem?_map,List.getElem?_range hik]at hgx;simp only[Option.map_some,hdD]at hgx;injection hgx with hgx;injection hgx with h1 h2;exact⟨h1.symm,h2.symm⟩
   obtain⟨rfl,rfl⟩:=hgy;have hn16:(N.outs p (k - 1) d).length=n16:=by simpa[ints]using s16.len
   have hn16b:n16<=1000:=by rw[<-hn16];exact Nat.le_trans (aE _ _) hna
   refine⟨i,rfl,b3,o3,hA5,hik,_,_,_,_,_,_,qp q1 q2,λh23 e23=>?_⟩;obtain⟨h24,s24,k24,g24,z24⟩:=aC (vs:=[ω A15 n15 K15,ω A16 n16 K16]) e23 rfl (dH rfl rfl);have hz22:=k22.next;have C24:KC h7 h7.next h19.next ks.length i (N.kList p k c ks) h24 vals D2 ψ 0 0 []:=by
    refine⟨k22.trans k24,?_,k24.bk hl22 l22,⟨hvl,hik⟩,λj v hj=>?_,al.nil _ _ _ _,λb hb=>?_,λb hb=>hb.elim,U⟩
    .have:=k24.bk U b22;rw[show ks.length - i=(ks.length - (i+1))+1 by omega,List.replicate_succ]at this;exact this
    .obtain⟨A',n',K',h1,h2⟩:=hold j v hj;exact⟨A',n',K',h1,h2.nw k24⟩
    .have:=hD2 b hb;exact⟨this.1,U,this.2.2.1,this.2.2.2,id⟩
   refine⟨h24,s24,_,_,_,aa g24 rfl,λm x h25=>∃(j:Nat) (A:Option Addr) (mm K:Nat),x=j/\j<=n16/\m=n16 - j/\KC h7 h7.next h19.next ks.length i (N.kList p k c ks) h25 vals D2 A mm K (((N.outs p (k - 1) d).take j).map (N.kStep p k c L))/\mm=j/\Nw h7 h25,n16,⟨0,ψ,0,0,rfl,Nat.zero_le _,rfl,by simpa using C24,rfl,C24.nw⟩,?_⟩;rintro m x h25 ⟨j,A,mm,K,rfl,hj,rfl,C25,rfl,k25⟩;have w1:IntKind.i64.wrap ((mm:Int)+1)=((mm+1:Nat):Int):=by rw[Int.natCast_succ];exact af U U
   refine⟨λhlt=>?_,λhge=>?_⟩
   .have hjn:mm<n16:=U;have s16':Sa cI D h25 A16 n16 K16 (ints (N.outs p (k - 1) d)):=by
     obtain⟨b3',o3',A15',n15',K15',A16',n16',K16',gx',gy',hA5',-,-,hgx',q1',q2',s15',s16'⟩:=(sG7.nw k25).gate (k:=i) hik;obtain⟨b7,o7,A157,n157,K157,A167,n167,K167,gx7,gy7,hA57,-,hb7,hgx7,q17,q27,s157,s167⟩:=sG7.gate (k:=i) hik;have e1:gy7=ints (N.outs p (k - 1) d):=by
      unfold hZ at hgx7;rw[List.getElem?_map,List.getElem?_range hik]at hgx7;simp only[Option.map_some,hdD]at hgx7;injection hgx7 with hgx7;injection hgx7 with h1 h2;exact h2.symm
     subst e1;rw[hA5]at hA57;injection hA57 with hA57;injection hA57 with e2 e3;subst e2 e3;have e4:=(k22.ldC hb7 _).trans q27;rw[q2]at e4;injection e4 with e4;injection e4 with e5 e6 e7;subst e5 e6 e7;exact s167.nw k25
    obtain⟨b4,o4,x14,hA16,-,-,hx14,r0⟩:=s16'.int (k:=mm) hjn;obtain⟨mv,hmv⟩:∃mv,(N.outs p (k - 1) d)[mm]? = ξ mv:=⟨_,List.getElem?_eq_getElem U⟩;have hxm:x14=(mv:Int):=by simp[ints,hmv]at hx14;exact hx14.symm
    subst hxm;have hmvm:=List.mem_of_getElem? hmv;have hmvn:=(ab.mem_outs.1 hmvm).1;have htake:((N.outs p (k - 1) d).take (mm+1)).map (N.kStep p k c L)=((N.outs p (k - 1) d).take mm).map (N.kStep p k c L) ++ [N.kStep p k c L mv]:=by
     rw[List.take_add_one,hmv,List.map_append];rfl
    refine⟨mm,rfl,b4,o4,hA16,hjn,_,r0,_,_,_,aa (k25.bk U cb7) rfl,iM mv (s27.nw k25) (aX _ _) U ⟨_,rfl,λh27 e27=>?_⟩⟩;obtain⟨h28,s28,k28,g28,z28⟩:=aC (vs:=[η ν 0,η ν (bK (N.outs p k c) mv),η ν 0]) e27 rfl (eC rfl rfl rfl);have fin:∀(h31:AH) (s:bw),Nw h25 h31->s=N.kStep p k c L mv->Bk h31 h25.next [η ν s.1,η ν s.2.1,η ν s.2.2] 366->
      ∃(A19:Option Addr) (n19:Nat) (K19:Nat),ldC h31 h19.next 0=ξ (ω A19 n19 K19)/\∃(A20:Option Addr) (n20:Nat) (K20:Nat),ldC h31 h19.next 0=ξ (ω A20 n20 K20)/\∃(b_5 o_5:Nat),A20=ξ ⟨b_5,o_5,ψ⟩/\i<n20/\∃(A21:Option Addr) (n21:Nat) (K21:Nat),ldC h31 b_5 (o_5+i)=ξ (ω A21 n21 K21)/\∃(x19:Int) (x20:Int) (x21:Int),au h31 h25.next 0 3=ξ [η ν x19,η ν x20,η ν x21]/\
      ∀h32:AH,h32=AH.new h31 (.cells [η ν x19,η ν x20,η ν x21] 366 false)->∃(A22:Option Addr) (n22:Nat) (K22:Nat) (h33:AH),ai Tryz.prog h32 (ξ (.slice 366)) (ξ (.slice 366)) (ω A21 n21 K21) (ω (ξ ⟨h31.next,0,ψ⟩) 1 2)=ξ (ω A22 n22 K22,h33)/\ldC h33 h19.next 0=ξ (ω A19 n19 K19)/\aS (ω A19 n19 K19)/\∃(b_6 o_6:Nat),A19=ξ ⟨b_6,o_6,ψ⟩/\i<n19/\∃h34:AH,iE h33 b_6 (o_6+i) [ω A22 n22 K22]=ξ h34/\
      ∃x22:Int,IntKind.i64.wrap ((mm:Int)+1)=x22/\∃m':Nat,m' < n16 - mm/\∃(j:Nat) (A:Option Addr) (mm K:Nat),x22=j/\j<=n16/\m' = n16 - j/\KC h7 h7.next h19.next ks.length i (N.kList p k c ks) h34 vals D2 A mm K (((N.outs p (k - 1) d).take j).map (N.kStep p k c L))/\mm=j/\Nw h7 h34:=by
     intro h31 s k31 hs gs;have C31:=C25.next k31;obtain⟨Q1,Q2,Q3,Q4,Q5⟩:=C31.pos;refine⟨_,_,_,aa C31.lbx rfl,_,_,_,aa C31.lbx rfl,_,_,rfl,hik,_,_,_,C31.cell,_,_,_,bX gs (by simp),λh32 e32=>?_⟩;obtain⟨A',K',h33,y1,y2,h34,y3,C34⟩:=C31.push U s h32 e32;refine⟨A',mm+1,K',h33,y1,y2,rfl,_,_,rfl,hik,h34,y3,_,w1,n16 - (mm+1),U,mm+1,A',mm+1,K',rfl,U,rfl,?_,rfl,C34.nw⟩;rw[htake,<-hs];exact C34
    refine⟨h28,s28,_,aa g28 rfl,λhneg=>?_,λhpos=>?_⟩
    .have hout:mv ∉ N.outs p k c:=λhm=>by have:=dk.2 hm;omega
     have hpl:bK (N.outs p k c) mv = -1:=by unfold bK;rw[if_neg hout]
     have hmL:mv∈L:=by rw[<-hL];exact Cc hKs O.ok O.hp hk hkl hdm hmvm hout
     have hst:N.kStep p k c L mv=(((L.idxOf mv:Nat):Int),-1,N.w mv):=by unfold ab.kStep;rw[if_neg hout,if_pos hmL]
     have wb:=ab.w_bd G.ok mv;rw[hpl]at g28;refine⟨_,_,ye (m7.keep ((k25.trans k28).get _ U)) mv,λ_=>?_,λhf=>absurd hmL (of_decide_eq_false hf)⟩;rw[if_pos hmL];refine jf ((G7.nw k25).nw k28) hmvn ⟨_,rfl,?_⟩;obtain⟨h30,s30,b30,z30,q30⟩:=aD (v:=η ν ((L.idxOf mv:Nat):Int)) g28 (o:=0) (by simp) rfl;obtain⟨h31,s31,b31,z31,q31⟩:=aD (v:=η ν (N.w mv)) b30 (o:=2) (by simp) rfl;have k31:Nw h25 h31:=⟨U,λb hb=>(q31 b U).trans ((q30 b U).trans (k28.get b hb))⟩;exact⟨h30,s30,h31,s31,fin h31 (((L.idxOf mv:Nat):Int),-1,N.w mv) k31 hst.symm b31⟩
    .have hout:mv∈N.outs p k c:=dk.1 U;have hpl:bK (N.outs p k c) mv=(((N.outs p k c).idxOf mv:Nat):Int):=by unfold bK;rw[if_pos hout]
     have hst:N.kStep p k c L mv=(0,(((N.outs p k c).idxOf mv:Nat):Int),0):=by unfold ab.kStep;rw[if_pos hout]
     rw[hpl]at g28;exact fin h28 (0,(((N.outs p k c).idxOf mv:Nat):Int),0) k28 hst.symm g28
   .obtain rfl:mm=n16:=U;have hC:=C25.own;rw[List.take_of_length_le U]at hC;obtain⟨Q1,Q2,Q3,Q4,Q5⟩:=C25.pos;have wi:IntKind.i64.wrap ((i:Int)+1)=((i+1:Nat):Int):=by rw[Int.natCast_succ];exact af U U
    refine⟨_,wi,ks.length - (i+1),U,i+1,vals ++ [ω A mm K],λb=>D2 b\/ah A b,rfl,U,rfl,k25,?_,C25.lbx,by simp[hvl],λq v hq=>?_,λb hb=>?_,Q5⟩
    .have:=C25.blk
     rwa [List.append_cons]at this
    .rw[List.getElem?_append]at hq
     split at hq
     .obtain⟨A',n',K',h1,h2⟩:=C25.old q v hq;exact⟨A',n',K',h1,h2.mono λb hb _=>.inl hb⟩
     .rename_i hge2;have hq0:q=vals.length:=by
       have:=(List.getElem?_eq_some_iff.1 hq).1;simp at this;omega
      subst hq0;simp at hq;subst hq;refine⟨A,mm,K,rfl,?_⟩;rw[hvl,hkl1];exact hC.sa.mono λb hb _=>.inr hb
    .rcases hb with hb | hb
     .have:=C25.dlo b hb;exact⟨this.1,this.2.1,this.2.2.1,this.2.2.2.1⟩
     .have:=C25.alo b hb;exact⟨this.1,hC.own hb,this.2.1,this.2.2⟩
  .obtain rfl:i=ks.length:=U;rw[Nat.sub_self,List.replicate_zero,List.append_nil]at b22;obtain⟨A12,K12,t1,t2,t3⟩:=B7.spt;rw[hL]at t1 t2;have z22:=k22.next;refine⟨_,_,_,aa (k22.bk P5 t1) rfl,λh45 e45=>?_⟩;obtain⟨h46,s46,k46,g46,z46⟩:=aC (vs:=[η ν L.length,ω ψ 0 0,.nilFunc]) e45 rfl (eC rfl rfl rfl);have k746:=k22.trans k46;have m46:=m7.keep (k746.get _ P4);refine⟨h46,s46,_,_,_,aa (k746.bk U cb7) rfl,λm x h47=>∃(q:Nat) (A17:Option Addr) (K17:Nat),x=q/\q<=n1/\m=n1 - q/\Bk h47 h22.next [η ν L.length,ω A17 q K17,.nilFunc] 277/\al cI h47 (ah A17) 3 A17 q K17 (ints (((N.ins p k c).take q).map λa=>L.idxOf a))/\(∀b,ah A17 b->h46.next<=b)/\h46.next<=h47.next/\(∀b,b<h46.next->b≠h22.next->h47.get b=h46.get b),n1,⟨0,ψ,0,rfl,Nat.zero_le _,rfl,g46,al.nil _ _ _ _,λb hb=>hb.elim,Nat.le_refl _,λ_ _ _=>rfl⟩,?_⟩;rintro m x h47 ⟨q,A17,K17,rfl,hq,rfl,b47,o47,lo47,hz47,q47⟩;refine⟨λhlt=>?_,λhge=>?_⟩
   .have hqn:q<n1:=U;have s1':Sa cI F1 h3 A1 n1 K1 (ints (N.ins p k c)):=s13;obtain⟨b5,o5,x34,hA1,-,hb5,hx34,r5⟩:=s13.int (k:=q) hqn;obtain⟨e,he⟩:∃e,(N.ins p k c)[q]? = ξ e:=⟨_,List.getElem?_eq_getElem U⟩;have hxe:x34=(e:Int):=by simp[ints,he]at hx34;exact hx34.symm
    subst hxe;have heL:e∈L:=by rw[<-hL];exact(hKs.in_kid O.ok O.hp hk hkl).2 (kR O.ok O.hp hk hkl (List.mem_of_getElem? he))
    have same3:∀b,b<h3.next->h47.get b=h3.get b:=λb hb=>(q47 b U U).trans ((k746.get b U).trans (B7.nw.get b hb));have m47:=m46.keep (q47 _ U U);have hlk:=Ca m47 e;rw[if_pos heL]at hlk;refine⟨q,rfl,b5,o5,hA1,hqn,_,(be (same3 b5 hb5) _).trans r5,_,_,_,aa b47 rfl,_,hlk,λh48 e48=>?_⟩;obtain⟨k48,g48,z48⟩:=aj e48;have hz:Sz cI (λz=>z=h47.next) h48 (ξ ⟨h47.next,0,ψ⟩) 1 2 [((L.idxOf e:Nat):Int)]:=Sz.one g48 rfl U rfl rfl;obtain⟨A18,K18,h49,y1,y2,y3,y4⟩:=aV (cE _) (r:=cI) dC (o47.nw k48) hz U U;have z49:=y3.next;have b49:=y3.bk (b:=h22.next) U (λho=>by have:=lo47 _ ho;omega) (k48.bk U b47);obtain⟨h50,s50,b50,z50,o50⟩:=aD (v:=ω A18 (q+1) K18) b49 (o:=1) (by simp) rfl;have lo18:∀z,ah A18 z->h46.next<=z:=λz hz=>(y4 z hz).elim (lo47 z) (λh=>U);refine⟨A18,q+1,K18,h49,y1,h50,s50,_,af U U,n1 - (q+1),U,q+1,A18,K18,U,U,rfl,b50,?_,lo18,U,λz hz hne=>(o50 z hne).trans ((y3.get z U (λho=>by have:=lo47 _ ho;omega)).trans ((k48.get z U).trans (q47 z hz hne)))⟩;have:ints (((N.ins p k c).take (q+1)).map λa=>L.idxOf a)=ints (((N.ins p k c).take q).map λa=>L.idxOf a) ++ [((L.idxOf e:Nat):Int)]:=by
     rw[List.take_add_one,he];simp[ints]
    rw[this];exact y2.keep (λz hz _=>o50 z (by have:=lo18 z hz;omega)) U
   .obtain rfl:q=n1:=U;rw[List.take_of_length_le U]at o47;obtain⟨h51,s51,b51,z51,o51⟩:=aD (v:=.func (.func 227) #[] #[μ (ξ ⟨h4.next,0,ψ⟩),μ (ξ ⟨h19.next,0,ψ⟩),μ (ξ ⟨h1.next,0,ψ⟩)]) b47 (o:=2) (by simp) rfl;have f51:Bk h51 h2.next [η ν 0,ω ψ 0 0,.nilFunc] 277:=(o51 _ U).trans ((q47 _ U U).trans (k746.bk U (B7.nw.bk U g3)));obtain⟨h52,s52,b52,z52,o52⟩:=bL (vs:=[η ν L.length,ω A17 q K17,.func (.func 227) #[] #[μ (ξ ⟨h4.next,0,ψ⟩),μ (ξ ⟨h19.next,0,ψ⟩),μ (ξ ⟨h1.next,0,ψ⟩)]]) f51 rfl (eC rfl rfl rfl);have same:∀z,z<h46.next->z≠h22.next->z≠h2.next->h52.get z=h46.get z:=λz hz h1 h2=>(o52 z h2).trans ((o51 z h1).trans (q47 z hz h1));have same7:∀z,z<h7.next->z≠h2.next->h52.get z=h7.get z:=λz hz h2=>(same z U U h2).trans (k746.get z hz);have same22:∀z,z<h22.next->z≠h2.next->h52.get z=h22.get z:=λz hz h2=>(same z U U h2).trans (k46.get z hz);have same3:∀z,z<h3.next->z≠h2.next->h52.get z=h3.get z:=λz hz h2=>(same7 z U h2).trans (B7.nw.get z hz);refine⟨h51,s51,_,_,_,_,_,_,bX b51 (by simp),h52,s52,_,_,_,_,_,_,bX b52 (by simp),?_⟩;have hnw:Nw h h52:=⟨U,λz hz=>(same3 z U U).trans (k03.get z hz)⟩;have hA17:Sa cI (λb=>h.next<=b) h52 A17 q K17 (ints ((N.ins p k c).map λa=>L.idxOf a)):=((o47.keep (λz hz _=>(o52 z (by have:=lo47 z hz;omega)).trans (o51 z (by have:=lo47 z hz;omega))) U).sa).mono λz hz _=>by have:=lo47 z hz;omega
    have lohi:=B7.hlo;have hspb:ldC h52 h4.next 0=ξ (ω A12 L.length K12):=aa ((same7 _ P5 U).trans t1) rfl;have hsps:Sa Dz (ah A12) h52 A12 L.length K12 (N.spK p k ks ks.length):=t2.sa.keep (λz hz hlt=>same7 z hlt (by have:=(t3 z hz).1;omega)) U;have hlb:ldC h52 h19.next 0=ξ (ω (ξ ⟨h7.next,0,ψ⟩) ks.length (cx ks.length)):=aa ((same22 _ hl22 U).trans l22) rfl;have hvb:Bk h52 h7.next vals 364:=(same22 _ U U).trans b22;have hls:Sa (Rc.slice aN) (λb=>D2 b\/b=h7.next) h52 (ξ ⟨h7.next,0,ψ⟩) ks.length (cx ks.length) ((List.range ks.length).map (N.kList p k c ks)):=
     Sa.of_bk hvb (by simp) (.inr rfl) U λj r hj=>by
      rw[List.getElem?_map]at hj;by_cases hjl:j<ks.length
      .rw[List.getElem?_range hjl]at hj;simp only[Option.map_some,Option.some.injEq]at hj;subst hj;obtain⟨v,hv⟩:∃v,vals[j]? = ξ v:=⟨_,List.getElem?_eq_getElem U⟩;obtain⟨A',n',K',rfl,h2⟩:=hold j v hv;refine⟨A',n',K',?_,(h2.keep (λz hz hlt=>same22 z hlt (by have:=(hD2 z hz).1;omega)) U).mono λb hb _=>.inl hb⟩;show(vals.drop (j*1)).take 1=_;rw[Nat.mul_one];exact di hv
      .rw[List.getElem?_eq_none (by simpa using hjl)]at hj;cases hj
    have hcb':ldC h52 h1.next 0=ξ (ω A3 n3 K3):=aa ((same3 _ U U).trans xb3) rfl;have hcs:Sa cI (λb=>F3 b/\b<h.next) h52 A3 n3 K3 costs:=((s3.mono (G:=λb=>F3 b/\b<h.next) λb hb hlt=>⟨hb,hlt⟩).nw hnw);have hn3:=s3.len;have hx:=Cd (h0:=h52) ⟨U,U,U⟩ hspb hsps hlb hls hcb' hcs U (λx hx=>?_) hcb (λr hr s hs=>?_)
    .have hfun:(λq=>match (N.spK p k ks ks.length)[q]? with | some x=>pe costs x.1.toNat ((((List.range ks.length).map (N.kList p k c ks))[x.2.toNat]?).getD []) | none=>[])=N.kSteps p k c ks costs:=by
      funext q'
      unfold ab.kSteps;cases hq':(N.spK p k ks ks.length)[q']? with
      | none=>rfl
      | some x=>
       obtain⟨a,ha⟩:∃a,(N.LK p k ks ks.length)[q']? = ξ a:=⟨_,List.getElem?_eq_getElem (by rw[<-jd];exact(List.getElem?_eq_some_iff.1 hq').1)⟩;obtain⟨i',j',d',h1',h2',h3',h4'⟩:=xQ ks.length (Nat.le_refl _) ha;rw[hq']at h4';injection h4' with h4';subst h4';simp[h1']
     have hx2:=(congrArg (λf=>j6 h52 227 #[μ (ξ ⟨h4.next,0,ψ⟩),μ (ξ ⟨h19.next,0,ψ⟩),μ (ξ ⟨h1.next,0,ψ⟩)] L.length f) hfun).mp hx;have hKK:=hK ks A17 K17 _ h52 hKs (by rw[hL];exact hx2) (by rw[hL];exact hA17) hnw;rw[hL]at hKK;exact hKK
    .obtain⟨q',hq'⟩:=List.getElem?_of_mem hx;obtain⟨a,ha⟩:∃a,(N.LK p k ks ks.length)[q']? = ξ a:=⟨_,List.getElem?_eq_getElem (by rw[<-jd];exact(List.getElem?_eq_some_iff.1 hq').1)⟩;obtain⟨i',j',d',h1',h2',h3',h4'⟩:=xQ ks.length (Nat.le_refl _) ha;rw[hq']at h4';injection h4' with h4';subst h4';have hd'm:=List.mem_of_getElem? h2';have hd'l:=hKs.lt O.hp hk hkl hd'm;have hse:=ab.start_end (N:=N) (p:=p) (k:=k - 1) U U hd'l;have hj':=(List.getElem?_eq_some_iff.1 h3').1;have hkl':(N.kList p k c ks i').length=(N.outs p (k - 1) d').length:=by unfold ab.kList;rw[h2'];simp
     refine⟨i',N.kList p k c ks i',rfl,by simp[h1'],by rw[hkl'];exact Nat.le_trans (aE _ _) U,?_⟩;by_cases he:N.outs p (k - 1) d' = []
     .left;unfold ab.kList;rw[h2'];simp[he]
     .right;unfold ab.firstK;rw[if_neg he];simp only[Int.toNat_natCast];refine⟨Int.natCast_nonneg _,?_⟩;rw[hkl'];unfold ab.sz at hse;have h5:(j' + 1)*(N.outs p (k - 1) d').length<=(N.ins p (k - 1) d').length*(N.outs p (k - 1) d').length:=Nat.mul_le_mul_right _ hj';rw[Nat.succ_mul]at h5;omega
    .obtain⟨i',hi',rfl⟩:=List.mem_map.1 hr;obtain⟨mv,hmv,rfl⟩:=List.mem_map.1 hs;have wb:=ab.w_bd G.ok mv;unfold ab.kStep
     split
     .exact Int.le_refl _
     .split
      .exact wb.1
      .show(0:Int)<=1152921504606846976;omega
end
end Eva
end
section
open Go Go.RowKit
theorem pA {l:List Int}{i outs j:Nat}(hj:j<outs):at_ ((l.drop (i*outs)).take outs) j=at_ l (i*outs+j):=by
 unfold at_;rw[List.getElem?_take,if_pos hj,List.getElem?_drop]
theorem GL {m outs q:Nat}(h:q<m*outs):q / outs<m/\q % outs<outs/\q / outs*outs+q % outs=q:=by
 have h0:0<outs:=by
  rcases Nat.eq_zero_or_pos outs with h1 | h1
  .rw[h1,Nat.mul_zero]at h;omega
  .exact h1
 exact⟨(Nat.div_lt_iff_lt_mul h0).2 h,Nat.mod_lt _ h0,by rw[Nat.mul_comm];exact Nat.div_add_mod q outs⟩
theorem yf {m outs:Nat}{steps:Nat->List bw}{starts:List Nat}{l:List Int}(hl:l.length=m*outs) (hs:starts.length=m) (hr:∀i st,starts[i]? = ξ st->qX outs steps st ((l.drop (i*outs)).take outs)):∀x∈l,0<=x:=λx hx=>by
 obtain⟨q,hq⟩:=List.getElem?_of_mem hx;have hql:=(List.getElem?_eq_some_iff.1 hq).1;obtain⟨h1,h2,h3⟩:=GL (hl ▸ hql);have h4:=(hr (q / outs) (starts[q / outs]' U) (List.getElem?_eq_getElem U)).2 (q % outs) h2;rw[pA h2,h3]at h4;have:at_ l q=x:=by unfold at_;rw[hq];rfl
 rw[this]at h4;exact h4.1.1
namespace Eva
section
variable {h:AH}{Q:Value->AH->Prop}{Fa F Fo F3:Nat->Prop}{g o:Nat}{N:ab}{p:List (List Int)}{k c:Nat}{A3:Option Addr}{n3 K3:Nat}{costs:List Int}
theorem GM (G:eA h Fa F g N) (hna3:N.na<=300) (O:eL h Fo o N p) (hk:1<=k) (hkl:k<=p.length) (hc:c<aq p k) (s3:Sa cI F3 h A3 n3 K3 costs) (hlen:costs.length=N.size p) (hsz:N.size p<=1000000) (hcb:∀x∈costs,0<=x)
  (hbel:2<=k->∀d,d<aq p (k - 1)->bu N p costs (k - 1) d)
  (hK:∀(A:Option Addr) (n K:Nat) (l:List Int) (h':AH),Sa cI (λb=>h.next<=b) h' A n K l->Es N p k c l->(∀x∈l,0<=x)->Nw h h'->Q (ω A n K) h') :
  WC Tryz.prog 73 [μ (ξ ⟨g,0,ψ⟩),μ (ξ ⟨o,0,ψ⟩),η ν k,η ν c,ω A3 n3 K3] h Q:=by
 have hna:=G.few.2;have hok:=G.ok;obtain⟨ni,hni⟩:∃ni,(N.ins p k c).length=ni:=⟨_,rfl⟩;obtain⟨no,hno⟩:∃no,(N.outs p k c).length=no:=⟨_,rfl⟩;have hni2:ni<=300:=by rw[<-hni];exact Nat.le_trans (aE _ _) hna3
 have hno2:no<=300:=by rw[<-hno];exact Nat.le_trans (aE _ _) hna3
 have hnn:ni*no<=300*300:=Nat.mul_le_mul hni2 hno2;have nil:∀h',Nw h h'->N.sz p k c=0->Q (ω ψ 0 0) h':=λh' a h0=>hK ψ 0 0 [] h' ⟨rfl,.inl ⟨rfl,rfl,rfl⟩,λh=>absurd h (Nat.lt_irrefl _)⟩ ⟨h0.symm,λi j a b hi hj=>by
  have:=mA (List.getElem?_eq_some_iff.1 hi).1 (List.getElem?_eq_some_iff.1 hj).1;unfold ab.sz at h0;omega⟩ (by simp) a
 refine wm ⟨λh=>absurd h U,λ_=>sV O hk hkl ⟨_,rfl,λh=>absurd h U,λ_=>uI O hk hkl hc λA2 K2 A3' K3' h2 sA sB k2=>⟨_,_,_,_,_,_,rfl,λh3 e3=>?_⟩⟩⟩;rw[hni]at sA⊢;rw[hno]at sB⊢;obtain⟨h4,s4,k4,g4,z4⟩:=aC (vs:=[ω A2 ni K2,ω A3' no K3']) e3 rfl (dH rfl rfl);have k04:=k2.trans k4;refine⟨h4,s4,_,_,_,aa g4 rfl,λh0=>nil h4 k04 (by unfold ab.sz;rw[hni,hno,show ni=0 by omega,Nat.zero_mul]),λhn0=>⟨_,_,_,aa g4 rfl,λh0=>nil h4 k04 (by unfold ab.sz;rw[hni,hno,show no=0 by omega,Nat.mul_zero]),λho0=>⟨λhk1=>?_,λhk1=>?_⟩⟩⟩
 .obtain rfl:k=1:=U;refine⟨_,_,_,_,_,_,bX g4 (by simp),_,_,_,aa g4 rfl,?_⟩;have z2:=k2.next;refine DO (G.nw k04) (sA.nw k4) (sB.nw k4) λL S sb A' K' h5 hL hN s5 k5=>⟨_,_,_,_,_,_,rfl,aa (k5.bk U g4) rfl,(sB.eqok),?_⟩;obtain⟨hA,hF⟩:=hL.fld hok;have hLl:=hL.len;rw[hno]at hF;refine BY s5 hF (by have:4294967296*(L.length+1)<=4294967296*1001:=Nat.mul_le_mul_left _ U;omega) U U U (λs hs=>?_) hN λC l h6 b6 hC hC2 hl hr k6=>⟨_,_,_,rfl,?_⟩
  .have:s<ni:=by simpa using hs
   obtain⟨M,hM⟩:=hL.pre;rw[hM,List.length_append];omega
  .have k5':=k5.next;refine hK _ _ _ l h6 ((Sa.of_ints b6 hl (F:=λb=>h.next<=b) (by have:=k04.next;omega) hC2)) ⟨by unfold ab.sz;rw[hni,hno];exact hl,λi j a b hi hj=>?_⟩ (yf hl (by simp) hr) (((k04.trans k5).trans k6));have hil:i<ni:=by rw[<-hni];exact(List.getElem?_eq_some_iff.1 hi).1
   have hjl:j<no:=by rw[<-hno];exact(List.getElem?_eq_some_iff.1 hj).1
   have:=hA.row hF hi hno (hr i i (by rw[List.getElem?_range hil])) hj;rw[pA hjl]at this;rw[hno];exact this
 .have hk2:2<=k:=U;refine⟨_,_,_,_,_,_,bX g4 (by simp),_,_,_,aa g4 rfl,?_⟩;have z2:=k2.next;refine DQ (G.nw k04) (O.nw k04) hk2 hkl hc (sA.nw k4) (sB.nw k4) (s3.nw k04) hlen hsz hcb λks A' K' fb h5 hKs hN s5 k5=>⟨_,_,_,_,_,_,rfl,aa (k5.bk U g4) rfl,(sB.eqok),?_⟩;obtain⟨hA,hF,hB⟩:=hKs.fld hok O.hp hk2 hkl (costs:=costs) λd hd=>hbel hk2 d (hKs.lt O.hp hk2 hkl hd);have hLl:=BA (N:=N) (p:=p) (k:=k) hKs.asc (Nat.le_refl ks.length);rw[hno]at hF;refine BY s5 hF (by
   have h1:4294967296*(N.na+2)<=4294967296*302:=Nat.mul_le_mul_left _ U;have h2:4294967296*(N.na+2)*((N.LK p k ks ks.length).length+1)<=(4294967296*302)*301:=Nat.mul_le_mul h1 U;omega) U U U (λs hs=>?_) hN λC l h6 b6 hC hC2 hl hr k6=>⟨_,_,_,rfl,?_⟩
  .obtain⟨a,ha,rfl⟩:=List.mem_map.1 hs;exact List.idxOf_lt_length_of_mem ((hKs.in_kid hok O.hp hk2 hkl).2 (kR hok O.hp hk2 hkl ha))
  .have k5':=k5.next;refine hK _ _ _ l h6 ((Sa.of_ints b6 hl (F:=λb=>h.next<=b) (by have:=k04.next;omega) hC2)) ⟨by unfold ab.sz;rw[hni,hno];exact hl,λi j a b hi hj=>?_⟩ (yf hl (by simp[hni]) hr) (((k04.trans k5).trans k6));have hjl:j<no:=by rw[<-hno];exact(List.getElem?_eq_some_iff.1 hj).1
   have hst:((N.ins p k c).map λa=>(N.LK p k ks ks.length).idxOf a)[i]? = ξ ((N.LK p k ks ks.length).idxOf a):=by rw[List.getElem?_map,hi];rfl
   have:=hA.row hok O.hp hk2 hkl hB hF hi hst hno (hr i _ hst) hj;rw[pA hjl]at this;rw[hno];exact this
end
end Eva
end
section
open Go Go.RowKit
namespace Eva
theorem zG:∃i,Tryz.prog.info? 2=ξ i/\i.size=1:=by
 obtain⟨q,q1,q2,-⟩:=bo GG;exact⟨q,q1,q2⟩
theorem yg {P:Program}{e C n lo:Nat}(hT:∃i,P.info? e=ξ i/\i.size=1) (h1:lo<=n):∃x K,(lo<n->x=lo)/\aG P e (ξ ⟨C,0,ψ⟩) n (cx n) (ξ lo) ψ ψ=ξ (ω (ξ ⟨C,x,ψ⟩) (n - lo) K):=by
 obtain⟨i,hi',hsz⟩:=hT;unfold aG;rw[hi'];have hc2:(cx n) / 2=n:=by unfold cx;omega
 have hp:Nat.beq ((cx n) % 2) 0=true:=by
  have:(cx n) % 2=0:=by unfold cx;omega
  rw[this];rfl
 have hb1:Nat.ble n ((cx n) / 2)=true:=Nat.ble_eq_true_of_le U;have hb0:Nat.ble lo n=true:=Nat.ble_eq_true_of_le h1;show ∃x K,(lo<n->x=lo)/\cond (Option.isNone (none:Option Nat) || Option.isSome (none:Option Nat)) (cT i.size (ξ ⟨C,0,ψ⟩) n (cx n) ((ξ lo).getD 0) ψ ψ) ψ=_;simp only[Option.isNone_none,Bool.true_or,cond_true,Option.getD_some];unfold cT;simp only[Option.getD_none,hb1,hb0,Bool.and_self,cond_true,hp];unfold nH nG;rw[hc2,hsz,Nat.mul_one];cases hb:Nat.beq n lo with
 | true=>
  have:=av hb;exact⟨0,_,λh=>U,rfl⟩
 | false=>
  refine⟨lo,cx (n - lo),λ_=>rfl,?_⟩;simp only[cond_false,Option.map_some];rw[bp,Nat.zero_add]
section
variable {h:AH}{F:Nat->Prop}
theorem Ce {C n lo x K n2 K2:Nat}{costs l:List Int}{A2:Option Addr}(hb:Bk h C (costs.map (Value.int .i64)) 2) (hn:costs.length=n) (hl:Sa cI F h A2 n2 K2 l) (hlo:lo+n2<=n) (hx:lo<n->x=lo) :
  ∃h',jp Tryz.prog h (ξ (.slice 2)) (ω (ξ ⟨C,x,ψ⟩) (n - lo) K) (ω A2 n2 K2)=ξ (η ν n2,h')/\Bk h' C ((eh costs l lo).map (Value.int .i64)) 2/\h'.next=h.next/\∀b,b≠C->h'.get b=h.get b:=by
 obtain⟨i,hi,hsz⟩:=zG;unfold jp;simp only[Ae,hi,hsz];have hble:Nat.ble n2 (n - lo)=true:=Nat.ble_eq_true_of_le U;rw[hble];simp only[cond_true];have hl2:=hl.len;have hf:fp h 1 n2 (ω A2 n2 K2)=ξ (l.map (Value.int .i64)):=jw (by simp[hl2]) λh0=>by
  obtain⟨b,o,hA,-,-,hx⟩:=hl.at_ h0;refine⟨b,o,hA,λj u hu=>?_⟩;rw[List.getElem?_map]at hu;cases hj:l[j]? with
  | none=>rw[hj]at hu;cases hu
  | some y=>
   rw[hj]at hu;obtain rfl:=Option.some.inj hu;obtain⟨cs,hc,hr⟩:=hx j y hj;have hr':cs = [η ν y]:=hr;have:=hc 0 (η ν y) (by rw[hr'];rfl);simpa[Rc.int]using this
 rw[hf];simp only;unfold vC;rcases Nat.eq_zero_or_pos n2 with h0 | h0
 .subst h0;have:l = []:=List.eq_nil_of_length_eq_zero hl2;subst this;refine⟨h,rfl,?_,rfl,λ_ _=>rfl⟩;unfold eh;simpa using hb
 .have hb0:Nat.beq (l.map (Value.int .i64)).length 0=false:=by
   cases hb0:Nat.beq (l.map (Value.int .i64)).length 0 with
   | false=>rfl
   | true=>have:=av hb0;simp at this;rw[this]at hl2;simp at hl2;omega
  simp only[hb0,cond_false];obtain rfl:=hx U;have:=Fc (h:=h) (b:=C) (o:=x) (vs:=l.map (Value.int .i64)) hb (by simp;omega) (λv hv=>by obtain⟨y,-,rfl⟩:=List.mem_map.1 hv;rfl);unfold iE at this;rw[this];refine⟨_,rfl,?_,rfl,λb hb=>by rw[get_put,if_neg hb]⟩;show(h.put C _).get C=_;rw[get_put,if_pos rfl];unfold eh;simp[List.map_take,List.map_drop]
end
section
variable {h:AH}{Q:Value->AH->Prop}{Fa F Fo:Nat->Prop}{g o:Nat}{N:ab}{p:List (List Int)}
theorem uS {costs l:List Int}{i:Nat}(h1:∀x∈costs,0<=x) (h2:∀x∈l,0<=x):∀x∈eh costs l i,0<=x:=λx hx=>by
 unfold eh at hx;rcases List.mem_append.1 hx with hx | hx
 .rcases List.mem_append.1 hx with hx | hx
  .exact h1 x (List.mem_of_mem_take hx)
  .exact h2 x hx
 .exact h1 x (List.mem_of_mem_drop hx)
theorem HN (G:eA h Fa F g N) (hna3:N.na<=300) (O:eL h Fo o N p) (hsz:N.size p<1000000)
  (hK:∀(C:Nat) (costs:List Int) (h':AH),Bk h' C (costs.map (Value.int .i64)) 2->h.next<=C->C<h'.next->bG N p costs->(∀x∈costs,0<=x)->Nw h h'->Q (ω (ξ ⟨C,0,ψ⟩) (N.size p) (cx (N.size p))) h') :
  WC Tryz.prog 70 [μ (ξ ⟨g,0,ψ⟩),μ (ξ ⟨o,0,ψ⟩)] h Q:=by
 have hp6:=O.hp.few;have hp1:=O.hp.some_;obtain⟨T,hT⟩:∃T,N.size p=T:=⟨_,rfl⟩;refine wh (xX O ⟨_,rfl,T,by rw[hT],U,λh2 e2=>?_⟩);obtain⟨k2,g2,z2⟩:=aj e2;rw[a9]at g2;refine⟨λm x y h3=>∃(k:Nat) (costs:List Int),x=((N.start p k 0:Nat):Int)/\y=k/\1<=k/\k<=p.length+1/\m=p.length+1 - k/\costs.length=T/\Bk h3 h.next (costs.map (Value.int .i64)) 2/\(∀k' c',1<=k'->k' < k->c' < aq p k'->bu N p costs k' c')/\(∀x∈costs,0<=x)/\Nw h h3/\h.next<h3.next,p.length,⟨1,List.replicate T 0,by rw[ab.start_one];rfl,rfl,Nat.le_refl _,U,U,by simp,by simpa using g2,λk' c' h1 h2=>U,λx hx=>by rw[List.eq_of_mem_replicate hx];exact Int.le_refl _,k2,U⟩,?_⟩;rintro m x y h3 ⟨k,costs,rfl,rfl,hk1,hk2,rfl,hl,b3,hc,hnn,k3,hlt3⟩;refine sU (O.nw k3) ⟨_,rfl,λhle=>?_,λhgt=>?_⟩
 .have hkl:k<=p.length:=U;have wk:IntKind.i64.wrap ((k:Int)+1)=((k+1:Nat):Int):=by rw[Int.natCast_succ];exact af U U
  refine sV (O.nw k3) hk1 hkl ⟨_,rfl,λm x y h6=>∃(c:Nat) (costs:List Int),x=((N.start p k c:Nat):Int)/\y=c/\c<=aq p k/\m=aq p k - c/\costs.length=T/\Bk h6 h.next (costs.map (Value.int .i64)) 2/\(∀k' c',1<=k'->k'<=p.length->c' < aq p k'->(k' < k\/(k' = k/\c' < c))->bu N p costs k' c')/\(∀x∈costs,0<=x)/\Nw h h6/\h.next<h6.next,aq p k,⟨0,costs,rfl,rfl,Nat.zero_le _,rfl,hl,b3,λk' c' h1 h2 h3 h4=>h4.elim (λh=>hc k' c' h1 h h3) (λh=>U),hnn,k3,hlt3⟩,?_⟩;rintro m x y h6 ⟨c,costs',rfl,rfl,hcm,rfl,hl',b6,hc',hnn',k6,hlt6⟩;refine⟨λhlt=>?_,λhge=>?_⟩
  .have hcl:c<aq p k:=U;have hse:=ab.start_end (N:=N) hk1 hkl hcl;obtain⟨st,hst⟩:∃st,N.start p k c=st:=⟨_,rfl⟩;rw[hst]at hse;have hmost:aq p k<=N.nv:=by
    obtain⟨row,hr⟩:∃row,p[k - 1]? = ξ row:=⟨_,List.getElem?_eq_getElem U⟩;have h2:=gu hr;have h3:=dg (row:=row) (n:=(N.nv:Int)) U (λx hx=>(O.hp.inr _ (List.mem_of_getElem? hr) x hx).2);omega
   have hnv:=O.nfew.1;have wc:IntKind.i64.wrap ((c:Int)+1)=((c+1:Nat):Int):=by rw[Int.natCast_succ];exact af U U
   obtain⟨x1,K1,hx1,hsl⟩:=yg (P:=Tryz.prog) (C:=h.next) (n:=T) (lo:=st) zG U;have s6:Sa cI (λb=>b=h.next) h6 (ξ ⟨h.next,0,ψ⟩) T (cx T) costs':=Sa.of_ints b6 hl' rfl hlt6;refine⟨st,by rw[hst],_,_,_,hsl,GM (G.nw k6) hna3 (O.nw k6) hk1 hkl hcl s6 U U hnn' (λh2 d hd=>hc' (k - 1) d U U hd (.inl U)) λA2 n2 K2 l h7 s7 hone hlnn k7=>⟨_,_,_,rfl,?_⟩⟩;have b7:=k7.bk hlt6 b6;have hn2:n2=N.sz p k c:=by rw[<-s7.len];exact hone.1
   obtain⟨h8,y1,y2,y3,y4⟩:=Ce (K:=K1) b7 hl' s7 (lo:=st) (x:=x1) U hx1;have w9:IntKind.i64.wrap ((st:Int)+(n2:Int))=((N.start p k (c+1):Nat):Int):=by
    rw[ab.start_cell,hst,<-hn2,Int.natCast_add];exact af U U
   have z7:=k7.next;refine⟨_,h8,y1,_,w9,_,wc,aq p k - (c+1),U,c+1,eh costs' l st,rfl,rfl,hcl,rfl,by rw[qU (by rw[s7.len];omega)];exact hl',y2,λk' c' h1 h2 h3 h4=>?_,uS hnn' hlnn,⟨by have:=k6.next;omega,λb hb=>(y4 b U).trans ((k7.get b U).trans (k6.get b hb))⟩,U⟩;by_cases e:k=k'/\c=c'
   .obtain⟨rfl,rfl⟩:=e;rw[<-hst];exact bu.put U hk1 hkl hcl hone
   .rw[<-hst];exact bu.putO U hk1 hkl hcl hone.1 h1 h2 h3 e (hc' k' c' h1 h2 h3 U)
  .obtain rfl:c=aq p k:=U;exact⟨_,wk,p.length+1 - (k+1),U,k+1,costs',by rw[ab.start_lev hk1],rfl,U,U,rfl,hl',b6,λk' c' h1 h2 h3=>hc' k' c' h1 U h3 (by
    rcases Nat.lt_or_ge k' k with h4 | h4
    .exact .inl h4
    .obtain rfl:k' = k:=U;exact .inr ⟨rfl,h3⟩),hnn',k6,hlt6⟩
 .obtain rfl:k=p.length+1:=U;have:=hK h.next costs h3 b3 (Nat.le_refl _) hlt3 ⟨U,λk c h1 h2 h3=>hc k c h1 U h3⟩ hnn k3
  rwa [hT]at this
end
end Eva
end
section
open Go Go.RowKit
namespace Eva
theorem GN:uH Tryz.prog 48 1 24=true:=by kernel_rfl
section
variable {h:AH}{Q:Value->AH->Prop}{F:Nat->Prop}{A:Option Addr}{n K:Nat}{p:List (List Int)}
theorem Ew (hs:Sa bh F h A n K p) (hn:n<=1000) (hm:∀x∈p,x.length<=100000) (hK:∀A' K' h',Sa bh (λb=>h.next<=b) h' A' n K' p->Nw h h'->Q (.agg #[ω A' n K']) h'):WC Tryz.prog 85 [.agg #[ω A n K]] h Q:=by
 refine ub λh1 e1 h2 e2 h3 e3=>?_;obtain⟨k1,g1,z1⟩:=aj e1;obtain⟨k2,g2,z2⟩:=aj e2;obtain⟨k3,g3,z3⟩:=aj e3;have hpl:=hs.len;refine⟨_,_,_,aa ((k2.trans k3).bk U g1) rfl,λm x h4=>∃(i:Nat) (A':Option Addr) (K':Nat) (D:Nat->Prop),x=i/\i<=n/\m=n - i/\Bk h4 h2.next [ω A' i K'] 109/\al bh h4 D 48 A' i K' (p.take i)/\(∀b,D b->h3.next<=b/\b<h4.next)/\h3.next<=h4.next/\(∀b,b<h3.next->b≠h2.next->h4.get b=h3.get b),n,⟨0,ψ,0,λ_=>False,rfl,Nat.zero_le _,rfl,g3,al.nil _ _ _ _,λb hb=>hb.elim,Nat.le_refl _,λ_ _ _=>rfl⟩,?_⟩;rintro m x h4 ⟨i,A',K',D,rfl,hi,rfl,b4,o4,hD,hz4,q4⟩;have k04:Nw h h4:=⟨U,λb hb=>(q4 b U U).trans (((k1.trans k2).trans k3).get b hb)⟩;refine⟨λhlt=>?_,λhge=>?_⟩
 .have hil:i<n:=U;obtain⟨b,o,A3,n3,K3,row,hA,-,-,hr,e0,s0⟩:=(hs.nw k04).row (k:=i) hil;have hrl:=hm row (List.mem_of_getElem? hr);have w1:IntKind.i64.wrap ((i:Int)+1)=((i+1:Nat):Int):=by rw[Int.natCast_succ];exact af U U
  refine⟨i,rfl,b,o,hA,hil,_,_,_,e0,_,_,_,aa b4 rfl,wF s0 (by rw[<-s0.len];exact hrl) λA5 K5 h5 s5 k5=>⟨_,_,_,rfl,aa (k5.bk U b4) rfl,o4.spot,λh6 e6=>?_⟩⟩;obtain⟨k6,g6,z6⟩:=aj e6;have z5:=k5.next;have hz:Sz bh (λb=>h4.next<=b/\b<h6.next) h6 (ξ ⟨h5.next,0,ψ⟩) 1 2 [row]:=Sz.one g6 ⟨U,U⟩ U rfl ⟨A5,n3,K5,rfl,(s5.nw k6).mono λb hb hlt=>⟨hb,hlt⟩⟩;obtain⟨A6,K6,h7,y1,y2,y3,y4⟩:=gq (r:=bh) (bytes:=24) GN (o4.nw (k5.trans k6)) hz (λb hb ho=>by have:=(hD b (o4.lt ho).1).2;omega) U U;have z7:=y3.next;have b7:Bk h7 h2.next [ω A' i K'] 109:=y3.bk U (λho=>by have:=(hD _ (o4.lt ho).1).1;omega) ((k5.trans k6).bk U b4);obtain⟨h8,s8,b8,z8,o8⟩:=aD (v:=ω A6 (i+1) K6) b7 (o:=0) (by simp) rfl;refine⟨A6,i+1,K6,h7,y1,h8,s8,_,w1,n - (i+1),U,i+1,A6,K6,λb=>(D b\/(h4.next<=b/\b<h6.next)\/b=h6.next)/\b<h7.next,rfl,hil,rfl,b8,?_,λb hb=>?_,U,λb hb hne=>(o8 b hne).trans ((y3.get b U (λho=>by have:=(hD _ (o4.lt ho).1).1;omega)).trans (((k5.trans k6).get b U).trans (q4 b hb hne)))⟩
  .rw[List.take_add_one,hr];exact(y2.mono (D':=λb=>(D b\/(h4.next<=b/\b<h6.next)\/b=h6.next)/\b<h7.next) λb hb hlt=>⟨hb,hlt⟩).keep (λb hb _=>o8 b (by
    rcases hb.1 with h9 | h9 | h9
    .have:=(hD b h9).1;omega
    .omega
    .omega)) U
  .rcases hb.1 with h9 | h9 | h9
   .have:=hD b h9;omega
   .omega
   .omega
 .obtain rfl:i=n:=U;rw[List.take_of_length_le U]at o4;have b1:Bk h4 h1.next [ω ψ 0 0] 109:=(q4 _ U U).trans (k3.bk U g2);obtain⟨h9,s9,b9,z9,o9⟩:=aD (v:=ω A' i K') b1 (o:=0) (by simp) rfl;refine⟨_,_,_,eo (aa b4 rfl),h9,s9,_,_,_,eo (aa b9 rfl),hK A' K' h9 ((o4.sa.keep (λb hb _=>o9 b (by have:=(hD b hb).1;omega)) U).mono λb hb _=>by have:=(hD b hb).1;omega) ⟨U,λb hb=>(o9 b U).trans (k04.get b hb)⟩⟩
theorem yh {o:Nat}{N:ab}(O:eL h F o N p) (hK:∀A' K' h',Sa bh (λb=>h.next<=b) h' A' p.length K' p->Nw h h'->Q (.agg #[ω A' p.length K']) h'):WC Tryz.prog 37 [μ (ξ ⟨o,0,ψ⟩)] h Q:=by
 refine lN λh1 e1=>?_;obtain⟨k1,g1,z1⟩:=aj e1;obtain⟨A,n,K,c0,s⟩:=(O.nw k1).part;have hn:=s.len;have hp6:=O.hp.few;have hnv:=O.hp.nv_;refine⟨o,0,rfl,A,n,K,eo c0,Ew s U (λx hx=>by have:=O.hp.rows x hx;omega) λA' K' h2 s2 k2=>⟨_,_,_,rfl,?_⟩⟩;have b2:=k2.bk U g1;obtain⟨h3,s3,b3,z3,o3⟩:=aD (v:=ω A' n K') b2 (o:=0) (by simp) rfl;have z2:=k2.next;refine⟨h3,s3,_,_,_,eo (aa b3 rfl),?_⟩;have hh:=hK A' K' h3 (by rw[hn];exact(s2.keep (λb hb _=>o3 b U) U).mono λb hb _=>U) ⟨U,λb hb=>(o3 b U).trans ((k1.trans k2).get b hb)⟩
 rwa [hn]at hh
theorem HO (a b c:Int):iq Tryz.prog (ξ (.array 3 3)) (.agg #[η ν a,η ν b,η ν c]) (ξ 0)=ξ (η ν a)/\iq Tryz.prog (ξ (.array 3 3)) (.agg #[η ν a,η ν b,η ν c]) (ξ 1)=ξ (η ν b)/\iq Tryz.prog (ξ (.array 3 3)) (.agg #[η ν a,η ν b,η ν c]) (ξ 2)=ξ (η ν c):=⟨by kernel_rfl,by kernel_rfl,by kernel_rfl⟩
theorem Cf {nv:Nat}(hp:aB nv p) (hs:Sa bh F h A n K p){v a b:Nat}(hv:v<nv) (ha:a<nv) (hb:b<nv) (hK:Q (η ν ((ie p v a b n:Nat):Int)) h):WC Tryz.prog 164 [ω A n K,η ν v,η ν a,η ν b] h Q:=by
 have hn6:n<=6:=by rw[<-hs.len];exact hp.few
 have hnv:=hp.nv_;refine qc ⟨λm x h1=>∃k:Nat,x=k/\k<=n/\m=k/\ie p v a b n=ie p v a b k/\h1=h,n,⟨n,rfl,Nat.le_refl _,rfl,rfl,rfl⟩,?_⟩;rintro m x h1 ⟨k,rfl,hk,rfl,hlv,rfl⟩;refine⟨λhge=>?_,λhlt=>?_⟩
 .obtain⟨k,rfl⟩:∃k',m=k' + 1:=⟨m - 1,U⟩;have wk:IntKind.i64.wrap (((k+1:Nat):Int) - 1)=(k:Int):=by
   rw[show((k+1:Nat):Int) - 1=(k:Int) by omega];exact af U U
  obtain⟨b1,o1,A2,n2,K2,row,rfl,-,-,hr,e0,s2⟩:=hs.row (k:=k) U;have hr':p[k+1 - 1]? = ξ row:=hr;obtain⟨hl,hx⟩:=cF hp hr';have hn2:n2=nv:=by rw[<-s2.len];exact hl
  subst hn2;obtain⟨v0,hv0,hv1,-⟩:=hx v hv;obtain⟨a0,ha0,ha1,-⟩:=hx a ha;obtain⟨b0,hb0,hb1,-⟩:=hx b hb;have rd:∀{j:Nat}{y:Int},j<n2->row[j]? = ξ y->∃b2 o2,A2=ξ ⟨b2,o2,ψ⟩/\ldC h1 b2 (o2+j)=ξ (η ν y):=fun {j y} hj hy=>by
   obtain⟨b2,o2,y',rfl,-,-,hy',e⟩:=s2.int (k:=j) hj;rw[hy]at hy';obtain rfl:=Option.some.inj hy';exact⟨b2,o2,rfl,e⟩
  obtain⟨b2,o2,rfl,ev⟩:=rd hv hv0;have ea:ldC h1 b2 (o2+a)=ξ (η ν a0):=by
   obtain⟨b3,o3,hA,e⟩:=rd ha ha0;injection hA with hA;injection hA with h1 h2;subst h1 h2;exact e
  have eb:ldC h1 b2 (o2+b)=ξ (η ν b0):=by
   obtain⟨b3,o3,hA,e⟩:=rd hb hb0;injection hA with hA;injection hA with h1 h2;subst h1 h2;exact e
  have cv:ap p (k+1) v=v0.toNat:=bS hr' hv0;have ca:ap p (k+1) a=a0.toNat:=bS hr' ha0;have cb:ap p (k+1) b=b0.toNat:=bS hr' hb0;have hdown:(ap p (k+1) v=ap p (k+1) a\/ap p (k+1) v=ap p (k+1) b)->ie p v a b n=ie p v a b k:=λh=>by
   rw[hlv,ie,if_neg (λh'=>h.elim h'.1 h'.2)]
  obtain⟨i0,i1,i2⟩:=HO (v:Int) (a:Int) (b:Int);refine⟨_,wk,k,rfl,b1,o1,rfl,U,_,_,_,e0,λm x h2=>∃j:Nat,x=j/\j<=3/\m=3 - j/\h2=h1,3,⟨0,rfl,U,rfl,rfl⟩,?_⟩;rintro m x h2 ⟨j,rfl,hj,rfl,rfl⟩;refine⟨λhj3=>?_,λhj3=>?_⟩
  .have fin:∀y:Nat,y<n2->(((y:Int)<0->Q (η ν 0) h2)/\(¬((y:Int)<0)->(((n2:Int):Int)<=y->Q (η ν 0) h2)/\(¬(((n2:Int):Int)<=y)->∃x8:Int,IntKind.i64.wrap ((j:Int)+1)=x8/\∃m':Nat,m' < 3 - j/\∃j':Nat,x8=j'/\j'<=3/\m' = 3 - j'/\h2=h2))):=λy hy=>
    ⟨λh=>absurd h U,λ_=>⟨λh=>absurd h U,λ_=>⟨_,af U U,3 - (j+1),U,j+1,U,U,rfl,rfl⟩⟩⟩
   match j,hj3 with
   | 0,_=>exact⟨0,rfl,_,i0,fin v hv⟩
   | 1,_=>exact⟨1,rfl,_,i1,fin a ha⟩
   | 2,_=>exact⟨2,rfl,_,i2,fin b hb⟩
   | j+3,h=>exact absurd h U
  .refine⟨v,rfl,b2,o2,rfl,hv,_,ev,a,rfl,ha,_,ea,λhe=>⟨_,wk,k,U,k,rfl,U,rfl,hdown (.inl (by rw[cv,ca,he])),rfl⟩,λhne=>⟨hv,_,ev,b,rfl,hb,_,eb,λhe=>⟨_,wk,k,U,k,rfl,U,rfl,hdown (.inr (by rw[cv,cb,he])),rfl⟩,λhne2=>?_⟩⟩;rw[hlv,ie,if_pos ⟨by rw[cv,ca];omega,by rw[cv,cb];omega⟩]at hK;exact hK
 .obtain rfl:m=0:=U;rw[hlv]at hK;exact hK
end
end Eva
end
section
open Go Go.RowKit
noncomputable def ab.le (N:ab) (p:List (List Int)) (costs:List Int) (s t:Nat) (a b:Nat):Option Nat:=kH N.e (N.lp p (N.ent p costs) (N.lev p s t)) N.to (N.lev p s t) a b
structure mD (N:ab) (p:List (List Int)) (costs:List Int) (s t a:Nat) (ol:List Nat) (pr:List Int):Prop where
 len:pr.length=ol.length
 lt:∀b∈ol,b<N.na
 nn:∀x∈pr,0<=x/\x<=an
 here:∀(i b:Nat) (x:Int),ol[i]? = ξ b->pr[i]? = ξ x->x<an->N.w b<an->N.le p costs s t a b=ξ (x.toNat+(N.w b).toNat)
 all:∀(b y:Nat),N.le p costs s t a b=ξ y->∃(i:Nat) (x:Int),ol[i]? = ξ b/\pr[i]? = ξ x/\x<an/\N.w b<an/\y=x.toNat+(N.w b).toNat
 few:ol.length<=N.na
section
variable {N:ab}{p:List (List Int)}{costs:List Int}{s t a:Nat}
theorem FC (hok:N.Ok) (ha:a<N.na):N.lev p s t (N.to a)=ie p (N.to a) (N.to s) (N.fr t) p.length:=by
 unfold ab.lev;have:=(ab.to_lt hok ha).1;rw[Nat.min_eq_left U]
theorem wO (hok:N.Ok) (ha:a<N.na) (hl:N.lev p s t (N.to a)=0):mD N p costs s t a (N.from_ (N.to a)) ((N.from_ (N.to a)).map λb=>N.turn a b):=by
 refine⟨by simp,λb hb=>((ab.mem_from hok).1 hb).1,λx hx=>?_,λi b x hi hx h1 h2=>?_,λb y hy=>?_,aE _ _⟩
 .obtain⟨b,-,rfl⟩:=List.mem_map.1 hx;have:=ab.turn_bd hok a b;unfold an at *;omega
 .rw[List.getElem?_map,hi]at hx;obtain rfl:=Option.some.inj hx;unfold ab.le kH;rw[if_pos hl];exact ab.e_some.2 ⟨h1,h2,rfl⟩
 .unfold ab.le kH at hy;rw[if_pos hl]at hy;obtain⟨h1,h2,rfl⟩:=ab.e_some.1 hy;obtain⟨-,t2,t3⟩:=ab.turn_in h1;obtain⟨i,hi⟩:=List.getElem?_of_mem ((ab.mem_from hok).2 ⟨t2,t3.symm⟩);exact⟨i,_,hi,by rw[List.getElem?_map,hi];rfl,h1,h2,rfl⟩
theorem nz {ent:Nat->Nat->Nat->Int}{lev:Nat->Nat}{b y:Nat}:N.lp p ent lev a b=ξ y↔a<N.na/\b<N.na/\N.inA p (lev (N.to a)) (ap p (lev (N.to a)) (N.to a)) a/\N.outA p (lev (N.to a)) (ap p (lev (N.to a)) (N.to a)) b/\ent (lev (N.to a)) a b<an/\N.w b<an/\y=(ent (lev (N.to a)) a b).toNat+(N.w b).toNat:=by
 unfold ab.lp
 split
 .rename_i h;simp only[Option.some.injEq];constructor
  .rintro rfl;exact⟨h.1,h.2.1,h.2.2.1,h.2.2.2.1,h.2.2.2.2.1,h.2.2.2.2.2,rfl⟩
  .rintro⟨_,_,_,_,_,_,rfl⟩;rfl
 .rename_i h;constructor
  .intro h';cases h'
  .rintro⟨h1,h2,h3,h4,h5,h6,_⟩;exact absurd ⟨h1,h2,h3,h4,h5,h6⟩ h
theorem wP (hl:N.lev p s t (N.to a)≠0) (h:a ∉ N.ins p (N.lev p s t (N.to a)) (ap p (N.lev p s t (N.to a)) (N.to a))\/N.outs p (N.lev p s t (N.to a)) (ap p (N.lev p s t (N.to a)) (N.to a)) = []):mD N p costs s t a [] []:=by
 refine⟨rfl,by simp,by simp,by simp,λb y hy=>?_,Nat.zero_le _⟩;unfold ab.le kH at hy;rw[if_neg hl]at hy;obtain⟨h1,h2,h3,h4,-⟩:=nz.1 hy;exfalso;rcases h with h | h
 .exact h (ab.mem_ins.2 ⟨h1,h3⟩)
 .have:=ab.mem_outs.2 ⟨h2,h4⟩;rw[h]at this;cases this
theorem uT (hok:N.Ok) (hp:aB N.nv p) (hco:bG N p costs) (ha:a<N.na){l c:Nat}(hl:N.lev p s t (N.to a)=l) (hl0:l≠0) (hc:ap p l (N.to a)=c) (hin:a∈N.ins p l c) :
  mD N p costs s t a (N.outs p l c) ((costs.drop (N.start p l c+(N.ins p l c).idxOf a*(N.outs p l c).length)).take (N.outs p l c).length):=by
 have hll:l<=p.length:=by rw[<-hl];exact iJ _ _ _ _ _
 have hto:=(ab.to_lt hok ha).1;have hcm:c<aq p l:=by rw[<-hc];exact cC hp U hll hto
 have hse:=ab.start_end (N:=N) (p:=p) (k:=l) U hll hcm;have hidx:=List.idxOf_lt_length_of_mem hin;have hmul:((N.ins p l c).idxOf a+1)*(N.outs p l c).length<=(N.ins p l c).length*(N.outs p l c).length:=Nat.mul_le_mul_right _ hidx;rw[Nat.succ_mul]at hmul;unfold ab.sz at hse;have hlen:=hco.1;have get:∀{i:Nat},i<(N.outs p l c).length->((costs.drop (N.start p l c+(N.ins p l c).idxOf a*(N.outs p l c).length)).take (N.outs p l c).length)[i]? = ξ (at_ costs (N.start p l c+((N.ins p l c).idxOf a*(N.outs p l c).length+i))):=fun {i} hi=>by
  rw[List.getElem?_take,if_pos hi,List.getElem?_drop,Nat.add_assoc];unfold at_;rw[List.getElem?_eq_getElem U];rfl
 have ent:∀{i b:Nat},(N.outs p l c)[i]? = ξ b->N.ent p costs l a b=at_ costs (N.start p l c+((N.ins p l c).idxOf a*(N.outs p l c).length+i)):=fun {i b} hi=>by
  unfold ab.ent;have e:(N.outs p l c).idxOf b=i:=fE (aX _ _) (aP (List.mem_of_getElem? hi)) hi;rw[hc,e]
 refine⟨by rw[List.length_take,List.length_drop];omega,λb hb=>(ab.mem_outs.1 hb).1,λx hx=>?_,λi b x hi hx h1 h2=>?_,λb y hy=>?_,aE _ _⟩
 .obtain⟨i,hi⟩:=List.getElem?_of_mem hx;have hil:i<(N.outs p l c).length:=by
   have:=(List.getElem?_eq_some_iff.1 hi).1;rw[List.length_take]at this;omega
  rw[get hil]at hi;obtain rfl:=Option.some.inj hi;exact(hco.2 l c U hll hcm _ i a _ (aP hin) (List.getElem?_eq_getElem hil)).bd
 .rw[get (List.getElem?_eq_some_iff.1 hi).1]at hx;have hx':=Option.some.inj hx;unfold ab.le kH;rw[if_neg (by rw[hl];exact hl0)];obtain⟨o1,o2⟩:=ab.mem_outs.1 (List.mem_of_getElem? hi);refine nz.2 ⟨ha,o1,?_,?_,?_,h2,?_⟩
  .rw[hl,hc];exact(ab.mem_ins.1 hin).2
  .rw[hl,hc];exact o2
  .rw[hl,ent hi,hx'];exact h1
  .rw[hl,ent hi,hx']
 .unfold ab.le kH at hy;rw[if_neg (by rw[hl];exact hl0)]at hy;obtain⟨h1,h2,h3,h4,h5,h6,rfl⟩:=nz.1 hy;rw[hl,hc]at h4;rw[hl]at h5⊢;obtain⟨i,hi⟩:=List.getElem?_of_mem (ab.mem_outs.2 ⟨h2,h4⟩);refine⟨i,_,hi,get (List.getElem?_eq_some_iff.1 hi).1,?_,h6,?_⟩
  .rw[<-ent hi];exact h5
  .rw[<-ent hi]
end
namespace Eva
def Cg (N:ab) (p:List (List Int)) (D:Nat->Prop) (h:AH) (l c:Nat) (v:Value):Prop:=
 ∃A K B L,v = .agg #[ω A (N.ins p l c).length K,.slice B (N.outs p l c).length L]/\Sa cI D h A (N.ins p l c).length K (ints (N.ins p l c))/\Sa cI D h B (N.outs p l c).length L (ints (N.outs p l c))
structure QA (h0:AH) (N:ab) (p:List (List Int)) (g o C s t q mp bf:Nat) (cA:Option Addr) (cK:Nat) (D:Nat->Prop) (h:AH):Prop where
 nw:Nw h0 h
 blk:Bk h q [μ (ξ ⟨g,0,ψ⟩),μ (ξ ⟨o,0,ψ⟩),ω (ξ ⟨C,0,ψ⟩) (N.size p) (cx (N.size p)),η ν s,η ν t,.slice cA p.length cK,.map (ξ mp),ω (ξ ⟨bf,0,ψ⟩) N.na (cx N.na)] 180
 cells:Sa bh D h cA p.length cK p
 map_:∃f,dP Hh h mp f/\∀l c v,f (l,c)=ξ v->Cg N p D h l c v
 dlo:∀b,D b->h0.next<=b/\b<h.next/\b≠q/\b≠mp/\b≠bf
 pos:h0.next<=q/\h0.next<=mp/\h0.next<=bf/\q≠mp/\q≠bf/\mp≠bf/\q<h.next/\mp<h.next/\bf<h.next
section
variable {h h' h0:AH}{Q:Value->AH->Prop}{Fa F Fo:Nat->Prop}{N:ab}{p:List (List Int)}{g o C s t q mp bf:Nat}{cA:Option Addr}{cK:Nat}{D:Nat->Prop}{a:Nat}
theorem QA.off {S:Nat->Prop}(B:QA h0 N p g o C s t q mp bf cA cK D h) (m:Mt S h h') (hS:∀b,S b->h0.next<=b/\b≠q/\b≠mp/\¬D b):QA h0 N p g o C s t q mp bf cA cK D h':=by
 obtain⟨p1,p2,p3,p4,p5,p6,p7,p8,p9⟩:=B.pos;have z:=m.next;have nD:∀{b},D b->¬S b:=λhd hs=>(hS _ hs).2.2.2 hd;obtain⟨f,f1,f2⟩:=B.map_;refine⟨m.is_nw B.nw λb hb=>(hS b hb).1,m.bk p7 (λhs=>(hS _ hs).2.1 rfl) B.blk,B.cells.off m λb hb=>nD hb,⟨f,f1.keep (m.get _ p8 (λhs=>(hS _ hs).2.2.1 rfl)),λl c v hv=>?_⟩,λb hb=>by have:=B.dlo b hb;omega,U⟩;obtain⟨A,K,B',L,e,s1,s2⟩:=f2 l c v hv;exact⟨A,K,B',L,e,s1.off m λb hb=>nD hb,s2.off m λb hb=>nD hb⟩
theorem QA.next (B:QA h0 N p g o C s t q mp bf cA cK D h) (a:Nw h h'):QA h0 N p g o C s t q mp bf cA cK D h':=B.off (S:=λ_=>False) (Mt.of a) (λb hb=>hb.elim)
theorem Ch (B:QA h0 N p g o C s t q mp bf cA cK D h) (G:eA h0 Fa F g N) (hp:aB N.nv p) (hs:s<N.na) (ht:t<N.na) (ha:a<N.na) (hK:Q (η ν ((N.lev p s t (N.to a):Nat):Int)) h):WC Tryz.prog 83 [μ (ξ ⟨q,0,ψ⟩),η ν a] h Q:=by
 have G1:=G.nw B.nw;have c0:ldC h q 0=ξ (μ (ξ ⟨g,0,ψ⟩)):=aa B.blk rfl;have c3:ldC h q (0+3)=ξ (η ν s):=aa B.blk rfl;have c4:ldC h q (0+4)=ξ (η ν t):=aa B.blk rfl;have c5:ldC h q (0+5)=ξ (.slice cA p.length cK):=aa B.blk rfl;rw[FC G.ok ha]at hK;exact kG ⟨q,0,rfl,_,_,_,c5,_,c0,_,c0,_,c3,_,c0,_,c4,zU G1 ha ⟨_,rfl,c4,c0,rfl,c3,c0,rfl,c5,B.cells.eqok,zU G1 hs ⟨_,rfl,c4,c0,rfl,c5,B.cells.eqok,pp G1 ht ⟨_,rfl,c5,B.cells.eqok,Cf hp B.cells (ab.to_lt G.ok ha).1 (ab.to_lt G.ok hs).1 (ab.fr_lt G.ok ht).1 ⟨_,rfl,hK⟩⟩⟩⟩⟩
theorem DR:ld Tryz.prog 291 Hh:=by
 obtain⟨i,hi,hsz,-⟩:=bo dC;exact GK (d:=.i64) Tryz.underlying291 Tryz.underlying3 hi hsz
theorem Ex:∃i,Tryz.prog.info? 113=ξ i/\i.zero=ξ (.agg #[ω ψ 0 0,ω ψ 0 0]):=by
 obtain⟨i,hi,-⟩:=bo If;refine⟨i,hi,?_⟩;have:(match Tryz.prog.info? 113 with | some i=>i.zero | none=>ψ)=ξ (.agg #[ω ψ 0 0,ω ψ 0 0]):=by kernel_rfl
 rw[hi]at this;exact this
theorem DS (O:eL h Fo o N p){k d:Nat}(hk:1<=k) (hkl:k<=p.length) (hd:d<aq p k)
  (h1:∀h',a ∉ N.ins p k d\/N.outs p k d = []->Nw h h'->Q (η ν (-1)) h')
  (h2:∀h',a∈N.ins p k d->N.outs p k d≠[]->Nw h h'->Q (η ν ((N.start p k d+(N.ins p k d).idxOf a*(N.outs p k d).length:Nat):Int)) h') :
  WC Tryz.prog 41 [μ (ξ ⟨o,0,ψ⟩),η ν k,η ν d,η ν (bK (N.ins p k d) a),η ν 0] h Q:=by
 by_cases ha:a∈N.ins p k d
 .have hpl:bK (N.ins p k d) a=(((N.ins p k d).idxOf a:Nat):Int):=by unfold bK;rw[if_pos ha]
  rw[hpl];have hidx:=List.idxOf_lt_length_of_mem ha;by_cases he:N.outs p k d = []
  .obtain⟨k',rfl⟩:∃k',k=k' + 1:=⟨k - 1,U⟩;have h0:(N.outs p (k' + 1) d).length=0:=by rw[he];rfl
   have hp6:=O.hp.few;obtain⟨b1,o1,n1,K1,b2,o2,K2,A3,K3,A4,K4,c3,hkn,l1,e2,l2,e3,e4,s3,s4⟩:=O.gate_ (k:=k') U hd;rw[h0]at e4;refine cB (zv O U U hd ⟨_,rfl,λ_=>?_,λh=>Bool.noConfusion h⟩);refine⟨_,_,rfl,_,_,_,c3,_,af U U,k',U,_,_,rfl,hkn,_,_,_,e2,d,rfl,_,_,rfl,hd,_,_,_,_,_,_,qp e3 e4,λh2 e7=>?_⟩;obtain⟨h3,hs3,k3,g3,z3⟩:=aC (vs:=[ω A3 (N.ins p (k' + 1) d).length K3,ω A4 0 K4]) e7 rfl (dH rfl rfl);exact⟨h3,hs3,λh=>absurd h U,λ_=>⟨_,_,_,aa g3 rfl,λh=>absurd h U,λ_=>⟨λh=>absurd h U,λ_=>⟨_,_,_,aa g3 rfl,λ_=>h1 _ (.inr he) k3,λh=>absurd (Int.le_refl _) h⟩⟩⟩⟩
  .have h0:0<(N.outs p k d).length:=by cases hx:N.outs p k d with | nil=>exact absurd hx he | cons x l=>simp
   refine Hf O (j:=0) U U hd hidx h0 λh' k'=>?_;have:=h2 h' ha he k'
   rwa [Nat.add_zero]
 .have hpl:bK (N.ins p k d) a = -1:=by unfold bK;rw[if_neg ha]
  rw[hpl];obtain⟨k',rfl⟩:∃k',k=k' + 1:=⟨k - 1,U⟩;have hp6:=O.hp.few;obtain⟨b1,o1,n1,K1,b2,o2,K2,A3,K3,A4,K4,c3,hkn,l1,e2,l2,e3,e4,s3,s4⟩:=O.gate_ (k:=k') U hd;refine cB (zv O U U hd ⟨_,rfl,λ_=>?_,λh=>Bool.noConfusion h⟩);refine⟨_,_,rfl,_,_,_,c3,_,af U U,k',U,_,_,rfl,hkn,_,_,_,e2,d,rfl,_,_,rfl,hd,_,_,_,_,_,_,qp e3 e4,λh2 e7=>?_⟩;obtain⟨h3,hs3,k3,g3,z3⟩:=aC (vs:=[ω A3 (N.ins p (k' + 1) d).length K3,ω A4 (N.outs p (k' + 1) d).length K4]) e7 rfl (dH rfl rfl);exact⟨h3,hs3,λ_=>h1 _ (.inl ha) k3,λh=>absurd (show(-1:Int)<0 by omega) h⟩
end
end Eva
end
section
open Go Go.RowKit
namespace Eva
theorem pB {xs:List Int}{ys:List Int}{i:Nat}{y:Int}(hy:ys[i]? = ξ y):(ys.take i ++ List.replicate (ys.length - i) 0).set i y=ys.take (i+1) ++ List.replicate (ys.length - (i+1)) 0:=by
 have hi:=(List.getElem?_eq_some_iff.1 hy).1;rw[List.set_append_right _ _ (by rw[List.length_take];omega),List.length_take,Nat.min_eq_left U,Nat.sub_self,show ys.length - i=(ys.length - (i+1))+1 by omega,List.replicate_succ,List.set_cons_zero,List.take_add_one,hy,List.append_assoc];rfl
section
variable {h h0:AH}{Q:Value->AH->Prop}{Fa F Fo:Nat->Prop}{N:ab}{p:List (List Int)}{g o C s t q mp bf:Nat}{cA:Option Addr}{cK:Nat}{D:Nat->Prop}{a l:Nat}{costs:List Int}
theorem rp {h:AH}{E:Nat->Prop}{lo no:Nat}(bc:Bk h C (costs.map (Value.int .i64)) 2) (hC:C<h.next) (hE:E C) (hlo:lo+no<=costs.length) (K:Nat):Sa cI E h (ξ ⟨C,lo,ψ⟩) no K ((costs.drop lo).take no):=by
 refine⟨by rw[List.length_take,List.length_drop];omega,.inr ⟨_,_,rfl⟩,λ_=>⟨C,lo,rfl,hE,hC,λk x hk=>⟨[η ν x],λj u hu=>?_,rfl⟩⟩⟩;rw[List.getElem?_take]at hk
 split at hk
 .rw[List.getElem?_drop]at hk
  match j,hu with
  | 0,hu=>
   obtain rfl:=Option.some.inj hu;show ldC h C (lo+(k*1+0))=_;rw[aT bc,Nat.mul_one,Nat.add_zero,List.getElem?_map,hk];rfl
 .cases hk
theorem GO (B:QA h0 N p g o C s t q mp bf cA cK D h) (G:eA h0 Fa F g N) (O:eL h0 Fo o N p) (bc:Bk h0 C (costs.map (Value.int .i64)) 2) (hC:C<h0.next) (hco:bG N p costs) (hsz:N.size p<1000000) (ha:a<N.na) (hl:N.lev p s t (N.to a)=l)
  (hK:∀(A4:Option Addr) (K4:Nat) (A5:Option Addr) (K5:Nat) (ol:List Nat) (pr:List Int) (D':Nat->Prop) (h':AH),mD N p costs s t a ol pr->QA h0 N p g o C s t q mp bf cA cK D' h'->Sa cI (λb=>b<h0.next\/h.next<=b\/D b) h' A4 ol.length K4 (ints ol)->Sa cI (λb=>b<h0.next\/h.next<=b\/D b) h' A5 ol.length K5 pr->Mt (λb=>b=mp) h h'->(∀b,D b->D' b)->(∀b,D' b->D b\/h.next<=b)->
   Q (.tuple #[ω A4 ol.length K4,ω A5 ol.length K5]) h') :
  WC Tryz.prog 82 [μ (ξ ⟨q,0,ψ⟩),η ν l,η ν a] h Q:=by
 have hok:=G.ok;have hp:=O.hp;have hna:=G.few.2;have hto:=(ab.to_lt hok ha).1;have hlen:=hco.1;obtain⟨P1,P2,P3,P4,P5,P6,P7,P8,P9⟩:=B.pos;have hp6:=hp.few;refine lT ⟨q,0,rfl,_,aa B.blk rfl,zU (G.nw B.nw) ha ⟨_,rfl,λhl0=>?_,λhl0=>?_⟩⟩
 .have hl0':l=0:=U;subst hl0';obtain⟨bs,hbs⟩:∃bs,N.from_ (N.to a)=bs:=⟨_,rfl⟩;refine⟨_,aa B.blk rfl,BM (G.nw B.nw) hto λA1 K1 h2 s2 k2=>⟨_,_,_,rfl,?_⟩⟩;have hR:=wO (costs:=costs) hok ha hl;have hbn:bs.length<=1000:=by rw[<-hbs];exact Nat.le_trans (aE _ _) hna
  rw[hbs]at s2 hR⊢;obtain⟨ys,hys⟩:∃ys,(bs.map λb=>N.turn a b)=ys:=⟨_,rfl⟩;have hyl:ys.length=bs.length:=by rw[<-hys];simp
  have z2':=k2.next;refine⟨U,λh3 e3=>?_⟩;obtain⟨k3,g3,z3⟩:=aj e3;rw[a9]at g3;refine⟨λm x h4=>∃i:Nat,x=i/\i<=bs.length/\m=bs.length - i/\Bk h4 h2.next ((ys.take i ++ List.replicate (ys.length - i) 0).map (Value.int .i64)) 2/\Nw h2 h4/\h2.next<h4.next,bs.length,⟨0,rfl,Nat.zero_le _,rfl,by simpa[hyl]using g3,k3,U⟩,?_⟩;rintro m x h4 ⟨i,rfl,hi,rfl,b4,k4,hlt4⟩;have k04:=k2.trans k4;refine⟨λhlt=>?_,λhge=>?_⟩
  .have hil:i<bs.length:=U;obtain⟨b2,o2,x5,hA1,-,-,hx5,r0⟩:=(s2.nw k4).int (k:=i) hil;obtain⟨b,hb⟩:∃b,bs[i]? = ξ b:=⟨_,List.getElem?_eq_getElem U⟩;have hxb:x5=(b:Int):=by simp[ints,hb]at hx5;exact hx5.symm
   subst hxb;have hbn':=hR.lt b (List.mem_of_getElem? hb);have hy:ys[i]? = ξ (N.turn a b):=by rw[<-hys,List.getElem?_map,hb];rfl
   refine⟨i,rfl,b2,o2,hA1,hil,_,r0,_,aa (B.next k04).blk rfl,BN (G.nw (B.nw.trans k04)) ha hbn' λh5 k5=>⟨_,rfl,hil,?_⟩⟩;have b5:=k5.bk hlt4 b4;have z5:=k5.next;have z4:=k4.next;obtain⟨h6,s6,b6,z6,o6⟩:=cP b5 (k:=i) (by rw[List.length_append,List.length_take,List.length_replicate];omega) (N.turn a b);rw[pB (xs:=[]) hy]at b6;exact⟨h6,s6,_,af U U,bs.length - (i+1),U,i+1,U,hil,rfl,b6,⟨U,λb hb=>(o6 b U).trans ((k5.get b U).trans (k4.get b hb))⟩,U⟩
  .obtain rfl:i=bs.length:=U;rw[<-hyl,Nat.sub_self,List.take_length,List.replicate_zero,List.append_nil]at b4;have:=hK A1 K1 (ξ ⟨h2.next,0,ψ⟩) (cx bs.length) bs ys D h4 (by rw[<-hys];exact hR) (B.next k04) ((s2.nw k4).mono λb hb _=>.inr (.inl hb)) (Sa.of_ints b4 hyl (.inr (.inl z2')) hlt4) (Mt.of k04) (λb hb=>hb) (λb hb=>.inl hb);exact this
 .have hl1:1<=l:=U;have hll:l<=p.length:=by rw[<-hl];exact iJ _ _ _ _ _
  have wl:IntKind.i64.wrap ((l:Int) - 1)=((l - 1:Nat):Int):=by rw[Int.natCast_sub hl1];exact af U U
  obtain⟨b3,o3,A3,n3,K3,row,hcA,-,-,hrow,r0,srow⟩:=B.cells.row (k:=l - 1) U;obtain⟨hrl,hrx⟩:=cF hp hrow;have hn3:n3=N.nv:=by rw[<-srow.len];exact hrl
  subst hn3;obtain⟨b4,o4,x9,hA3,-,-,hx9,r1⟩:=srow.int (k:=N.to a) hto;obtain⟨x9',hx9',x90,-⟩:=hrx (N.to a) hto;rw[hx9]at hx9';obtain rfl:=Option.some.inj hx9';obtain⟨c,rfl⟩:=Int.eq_ofNat_of_zero_le x90;have hc:ap p l (N.to a)=c:=by rw[bS hrow hx9];simp
  have hcm:c<aq p l:=by rw[<-hc];exact cC hp hl1 hll hto
  have hlne:N.lev p s t (N.to a)≠0:=U;obtain⟨f,f1,f2⟩:=B.map_;obtain⟨ig,hig,hzg⟩:=Ex;have hlook:=f1.look (e:=113) DR hig hzg (by kernel_rfl) (l,c) true;have nil:∀(D':Nat->Prop) (h':AH),(a ∉ N.ins p l c\/N.outs p l c = [])->QA h0 N p g o C s t q mp bf cA cK D' h'->Mt (λb=>b=mp) h h'->(∀b,D b->D' b)->(∀b,D' b->D b\/h.next<=b)->Q (.tuple #[ω ψ 0 0,ω ψ 0 0]) h':=λD' h' hn hq hm hd1 hd2=>
   hK ψ 0 ψ 0 [] [] D' h' (wP hlne (by rw[hl,hc];exact hn)) hq ⟨rfl,.inl ⟨rfl,rfl,rfl⟩,λh=>absurd h (Nat.lt_irrefl _)⟩ ⟨rfl,.inl ⟨rfl,rfl,rfl⟩,λh=>absurd h (Nat.lt_irrefl _)⟩ hm hd1 hd2
  refine⟨_,_,_,aa B.blk rfl,_,wl,l - 1,rfl,b3,o3,hcA,U,_,_,_,r0,N.to a,rfl,b4,o4,hA3,hto,_,r1,_,aa B.blk rfl,?_⟩;obtain⟨ni,hni⟩:∃ni,(N.ins p l c).length=ni:=⟨_,rfl⟩;obtain⟨no,hno⟩:∃no,(N.outs p l c).length=no:=⟨_,rfl⟩;have hni2:ni<=1000:=by rw[<-hni];exact Nat.le_trans (aE _ _) hna
  have hno2:no<=1000:=by rw[<-hno];exact Nat.le_trans (aE _ _) hna
  have hse:=ab.start_end (N:=N) (p:=p) (k:=l) hl1 hll hcm;unfold ab.sz at hse;rw[hni,hno]at hse;have main:∀(h9:AH) (D':Nat->Prop) (A6 A7:Option Addr) (K6 K7:Nat),QA h0 N p g o C s t q mp bf cA cK D' h9->Mt (λb=>b=mp) h h9->(∀b,D b->D' b)->(∀b,D' b->D b\/h.next<=b)->h.next<h9.next->Bk h9 h.next [ω A6 ni K6,ω A7 no K7] 113->Sa cI D' h9 A7 no K7 (ints (N.outs p l c))->∀h10,a∈N.ins p l c->N.outs p l c≠[]->Nw h9 h10->
    ∃(A:Option Addr) (n:Nat) (K:Nat),ldC h10 h.next 1=ξ (ω A n K)/\∃x12:Int,IntKind.i64.wrap (((N.start p l c+(N.ins p l c).idxOf a*no:Nat):Int)+(n:Int))=x12/\∃(A8:Option Addr) (n8:Nat) (K8:Nat),ldC h10 q (0+2)=ξ (ω A8 n8 K8)/\(((n8:Int):Int)<x12->Q (.tuple #[ω ψ 0 0,ω ψ 0 0]) h10)/\(¬(((n8:Int):Int)<x12)->∃(A9:Option Addr) (n9:Nat) (K9:Nat),ldC h10 h.next 1=ξ (ω A9 n9 K9)/\∃(A10:Option Addr) (n10:Nat) (K10:Nat),ldC h10 q (0+2)=ξ (ω A10 n10 K10)/\∃(A11:Option Addr) (n11:Nat) (K11:Nat),ldC h10 h.next 1=ξ (ω A11 n11 K11)/\∃x13:Int,IntKind.i64.wrap (((N.start p l c+(N.ins p l c).idxOf a*no:Nat):Int)+(n11:Int))=x13/\∃k4:Nat,((N.start p l c+(N.ins p l c).idxOf a*no:Nat):Int)=(k4:Int)/\∃k5:Nat,x13=(k5:Int)/\∃(A12:Option Addr) (n12 K12:Nat),aG Tryz.prog 2 A10 n10 K10 (ξ k4) (ξ k5) ψ=ξ (ω A12 n12 K12)/\aS (ω A11 n11 K11)/\aS (ω A10 n10 K10)/\Q (.tuple #[ω A9 n9 K9,ω A12 n12 K12]) h10):=by
   intro h9 D' A6 A7 K6 K7 B9 m9 hd1 hd2 hlt9 gb so h10 hin hne k10;have hidx:=List.idxOf_lt_length_of_mem hin;have hmul:((N.ins p l c).idxOf a+1)*no<=ni*no:=Nat.mul_le_mul_right _ (by rw[<-hni];exact hidx);rw[Nat.succ_mul]at hmul;have hpos:0<no:=by rw[<-hno];cases hx:N.outs p l c with | nil=>exact absurd hx hne | cons x l=>simp
   obtain⟨lo,hlo⟩:∃lo,N.start p l c+(N.ins p l c).idxOf a*no=lo:=⟨_,rfl⟩;rw[hlo];have wlo:IntKind.i64.wrap ((lo:Int)+(no:Int))=((lo+no:Nat):Int):=by rw[Int.natCast_add];exact af U U
   have B10:=B9.next k10;have gb10:=k10.bk hlt9 gb;have hsl:=sZ (P:=Tryz.prog) (e:=2) (C:=C) (n:=N.size p) (lo:=lo) (hi:=lo+no) zG U U (.inl U);rw[Nat.add_sub_cancel_left]at hsl;refine⟨_,_,_,aa gb10 rfl,_,wlo,_,_,_,aa B10.blk rfl,λh=>absurd h U,λ_=>⟨_,_,_,aa gb10 rfl,_,_,_,aa B10.blk rfl,_,_,_,aa gb10 rfl,_,wlo,lo,rfl,lo+no,rfl,_,_,_,hsl,so.eqok,rfl,?_⟩⟩;have hR:=uT hok hp hco ha hl U hc hin;rw[hno,hlo]at hR;have hE:∀b,D' b->(b<h0.next\/h.next<=b\/D b):=λb hb=>(hd2 b hb).elim (λh=>.inr (.inr h)) (λh=>.inr (.inl h));have m10:=m9.nw k10;have:=hK A7 K7 (ξ ⟨C,lo,ψ⟩) (cx (N.size p - lo)) (N.outs p l c) _ D' h10 hR B10 (by rw[hno];exact(so.nw k10).mono λb hb _=>hE b hb) (by rw[hno];exact rp (B10.nw.bk hC bc) (by have:=B10.nw.next;omega) (.inl hC) U _) m10 hd1 hd2;rw[hno]at this;exact this
  cases hf:f (l,c) with
  | some v=>
   obtain⟨A6,K6,A7,K7,rfl,s6,s7⟩:=f2 l c v hf;rw[hni]at s6;rw[hno]at s7;rw[hf,hni,hno]at hlook;refine⟨_,_,_,_,_,_,_,hlook,λ_ h7 e7=>?_,λh=>Bool.noConfusion h⟩;obtain⟨h8,s8,k8,g8,z8⟩:=aC (vs:=[ω A6 ni K6,ω A7 no K7]) e7 rfl (dH rfl rfl);have B8:=B.next k8;refine⟨h8,s8,_,_,_,aa g8 rfl,iM a (s6.nw k8) (aX _ _) U ⟨_,rfl,_,aa B8.blk rfl,DS (O.nw B8.nw) hl1 hll hcm (λh10 hn k10=>⟨_,rfl,λ_=>nil D h10 hn (B8.next k10) (Mt.of (k8.trans k10)) (λb hb=>hb) (λb hb=>.inl hb),λ_=>⟨λ_=>nil D h10 hn (B8.next k10) (Mt.of (k8.trans k10)) (λb hb=>hb) (λb hb=>.inl hb),λh=>absurd (show(-1:Int)<0 by omega) h⟩⟩) (λh10 hin hne k10=>⟨_,rfl,λh=>absurd h (by have:=dk.2 hin;omega),λ_=>⟨λh=>absurd h U,λ_=>?_⟩⟩)⟩⟩;have:=main h8 D A6 A7 K6 K7 B8 (Mt.of k8) (λb hb=>hb) (λb hb=>.inl hb) U g8 (s7.nw k8) h10 hin hne k10;rw[hno];exact this
  | none=>
   rw[hf]at hlook;refine⟨ψ,0,0,ψ,0,0,_,hlook,λh=>Bool.noConfusion h,λ_ h11 e11=>?_⟩;obtain⟨h12,s12,k12,g12,z12⟩:=aC (vs:=[ω ψ 0 0,ω ψ 0 0]) e11 rfl (dH rfl rfl);have B12:=B.next k12;refine⟨h12,s12,_,aa B12.blk rfl,uI (O.nw B12.nw) hl1 hll hcm λA6 K6 A7 K7 h13 s6 s7 k13=>⟨_,_,_,_,_,_,rfl,?_⟩⟩;rw[hni]at s6⊢;rw[hno]at s7⊢;have z13:=k13.next;obtain⟨h14,s14,b14,z14,o14⟩:=bL (vs:=[ω A6 ni K6,ω A7 no K7]) (k13.bk U g12) rfl (dH rfl rfl);have k14:Nw h h14:=⟨U,λb hb=>(o14 b U).trans ((k13.get b U).trans (k12.get b hb))⟩;have B14:=B.next k14;obtain⟨h15,y1,y2,y3,y4⟩:=(f1.keep (h':=h14) (k14.get _ P8)).put (P:=Tryz.prog) (e:=113) DR (l,c) (.agg #[ω A6 ni K6,ω A7 no K7]);have m15:Mt (λb=>b=mp) h14 h15:=⟨U,λb _ hb=>y4 b hb⟩;have s6':Sa cI (λb=>h12.next<=b/\b<h13.next) h15 A6 ni K6 (ints (N.ins p l c)):=((s6.mono λb hb hlt=>⟨hb,hlt⟩).keep (h':=h14) (λb hb _=>o14 b U) U).off m15 λb hb e=>U;have s7':Sa cI (λb=>h12.next<=b/\b<h13.next) h15 A7 no K7 (ints (N.outs p l c)):=((s7.mono λb hb hlt=>⟨hb,hlt⟩).keep (h':=h14) (λb hb _=>o14 b U) U).off m15 λb hb e=>U;have B15:QA h0 N p g o C s t q mp bf cA cK (λb=>D b\/(h12.next<=b/\b<h13.next)) h15:=by
    refine⟨m15.is_nw B14.nw λb hb=>U,m15.bk U P4 B14.blk,(B14.cells.off m15 λb hb e=>(B.dlo b hb).2.2.2.1 e).mono λb hb _=>.inl hb,⟨_,y2,λl' c' v hv=>?_⟩,λb hb=>?_,U⟩
    .by_cases e:(l',c')=(l,c)
     .rw[if_pos e]at hv;obtain rfl:=Option.some.inj hv;injection e with e1 e2;subst e1 e2;exact⟨A6,K6,A7,K7,by rw[hni,hno],by rw[hni];exact s6'.mono λb hb _=>.inr hb,by rw[hno];exact s7'.mono λb hb _=>.inr hb⟩
     .rw[if_neg e]at hv;obtain⟨A,K,A',L,e',x1,x2⟩:=f2 l' c' v hv;exact⟨A,K,A',L,e',(((x1.nw k14).off m15 λb hb e=>(B.dlo b hb).2.2.2.1 e)).mono λb hb _=>.inl hb,(((x2.nw k14).off m15 λb hb e=>(B.dlo b hb).2.2.2.1 e)).mono λb hb _=>.inl hb⟩
    .rcases hb with hb | hb
     .have:=B.dlo b hb;omega
     .omega
   have b15:=m15.bk U U b14;have m015:Mt (λb=>b=mp) h h15:=(Mt.of k14).then m15;have hd1:∀b,D b->(D b\/(h12.next<=b/\b<h13.next)):=λb hb=>.inl hb;have hd2:∀b,(D b\/(h12.next<=b/\b<h13.next))->D b\/h.next<=b:=λb hb=>hb.imp id λh=>U;refine⟨h14,s14,_,aa B14.blk rfl,_,_,_,_,_,_,bX b14 (by simp),h15,y1,_,_,_,aa b15 rfl,iM a s6' (aX _ _) U ⟨_,rfl,_,aa B15.blk rfl,DS (O.nw B15.nw) hl1 hll hcm (λh10 hn k10=>⟨_,rfl,λ_=>nil _ h10 hn (B15.next k10) (m015.nw k10) hd1 hd2,λ_=>⟨λ_=>nil _ h10 hn (B15.next k10) (m015.nw k10) hd1 hd2,λh=>absurd (show(-1:Int)<0 by omega) h⟩⟩) (λh10 hin hne k10=>⟨_,rfl,λh=>absurd h (by have:=dk.2 hin;omega),λ_=>⟨λh=>absurd h U,λ_=>?_⟩⟩)⟩⟩;have:=main h15 _ A6 A7 K6 K7 B15 m015 hd1 hd2 U b15 (s7'.mono λb hb _=>.inr hb) h10 hin hne k10;rw[hno];exact this
end
end Eva
end
end Go.Proofs.YtmbadhdpcdbdbaaGreatDoor
