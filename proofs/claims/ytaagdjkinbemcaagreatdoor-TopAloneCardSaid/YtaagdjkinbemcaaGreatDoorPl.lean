/-
Lemmas for TopAlone. No condition.
-/
import Derived.Test.YtaagdjkinbemcaaGreatDoorPj
import Derived.Test.YtaagdjkinbemcaaGreatDoorPk
import Derived.Test.YtaagdjkinbemcaaGreatDoorPi
import Derived.Test.YtaagdjkinbemcaaGreatDoorPf
namespace Go.Proofs.YtaagdjkinbemcaaGreatDoor
open _root_.Go.IntKind renaming i64->ξ
open _root_.Go.Value renaming int->ω,pointer->ν,slice->Y
open _root_.Option renaming none->η,some->ψ
set_option linter.unusedVariables false
set_option linter.unusedSimpArgs false
set_option linter.unusedSectionVars false
set_option linter.unnecessarySimpa false
section
open Go
namespace Eva
structure kf {α:Type} [DecidableEq α] (P:Program) (kt:TypeId) (κ:α->Value):Prop where
 pl:∀a,pl (κ a)=true
 eq:∀a b,av P (Op.equal kt (κ a) (κ b))=ψ (decide (a=b))
 chk:∀e a,lw P kt e (κ a)=true
 bits:∀a,Instr.sameBits 10000 (κ a) (κ a)=true
section
variable {α:Type} [DecidableEq α]
abbrev IG (α:Type):=α×Value×Nat
def tz (κ:α->Value) (x:IG α):Value×Value×Nat:=(κ x.1,x.2.1,x.2.2)
def kY (l:List (IG α)) (a:α):Option Value:=(l.find? λx=>decide (x.1=a)).map (·.2.1)
theorem iD {P:Program}{kt:TypeId}{κ:α->Value}(K:kf P kt κ) (a:α):∀(l:List (IG α)) (i:Nat),
  (gv P kt (κ a) (l.map (tz κ)) i=ψ η/\kY l a=η)\/
  ∃j v b,gv P kt (κ a) (l.map (tz κ)) i=ψ (ψ (i+j,v))/\l[j]? = ψ (a,v,b)/\kY l a=ψ v/\∀v' a',kY (l.set j (a,v',b)) a' = if a' = a then ψ v' else kY l a'
 | [],i=>.inl ⟨by show cond (Eva.pl (κ a)) (ψ η) η=_;rw[K.pl];rfl,rfl⟩
 | x :: l,i=>by
  have e0:gv P kt (κ a) ((x :: l).map (tz κ)) i=pJ i x.2.1 (gv P kt (κ a) (l.map (tz κ)) (i+1)) (ψ (decide (a=x.1))):=by
   show cond (Eva.pl (κ a) && Eva.pl (κ x.1)) (pJ i x.2.1 (gv P kt (κ a) (l.map (tz κ)) (i+1)) (av P (Op.equal kt (κ a) (κ x.1)))) η=_;rw[K.pl,K.pl,K.eq];rfl
  rw[e0];by_cases h:a=x.1
  .refine .inr ⟨0,x.2.1,x.2.2,by rw[decide_eq_true h];rfl,by rw[h];rfl,by simp[kY,h],λv' a'=>?_⟩;by_cases h':a' = a
   .simp[kY,h']
   .have h2:¬a=a':=λe=>h' e.symm;have h3:¬x.1=a':=λe=>h2 (h.trans e);simp[kY,h',h2,h3]
  .have hx:¬x.1=a:=λe=>h e.symm;rw[decide_eq_false h];rcases iD K a l (i+1) with⟨h1,h2⟩ | ⟨j,v,b,h1,h2,h3,h4⟩
   .exact .inl ⟨h1,by simpa[kY,hx]using h2⟩
   .refine .inr ⟨j+1,v,b,by show gv P kt (κ a) (l.map (tz κ)) (i+1)=_;rw[h1];congr 3;omega,by simpa using h2,by simpa[kY,hx]using h3,λv' a'=>?_⟩;have h5:=h4 v' a';by_cases h6:x.1=a'
    .have h7:¬a' = a:=λe=>hx (h6.trans e);simp[kY,h6,h7]
    .simpa[kY,h6]using h5
theorem qW {κ:α->Value}{a:α}{v v0:Value}{b:Nat}:∀{l:List (IG α)}{j:Nat},l[j]? = ψ (a,v0,b)->oW (κ a) v (l.map (tz κ)) j=(l.set j (a,v,b)).map (tz κ)
 | [],j,h=>by simp at h
 | x :: l,0,h=>by simp at h;subst h;rfl
 | x :: l,j+1,h=>by
  show tz κ x :: oW (κ a) v (l.map (tz κ)) j=_;rw[qW (l:=l) (j:=j) (by simpa using h)];rfl
def cX (κ:α->Value) (h:AH) (r:Nat) (f:α->Option Value):Prop:=
 ∃(l:List (IG α)) (clock:Nat),h.get r=ψ (.map (l.map (tz κ)) clock)/\∀a,f a=kY l a
theorem cX.keep {κ:α->Value}{h h':AH}{r:Nat}{f:α->Option Value}(m:cX κ h r f) (hg:h'.get r=h.get r):cX κ h' r f:=by
 obtain⟨l,c,h1,h2⟩:=m;exact⟨l,c,hg.trans h1,h2⟩
theorem cX.new {κ:α->Value}{h:AH}{r c:Nat}(hg:h.get r=ψ (.map [] c)):cX κ h r (λ_=>η):=⟨[],c,hg,λa=>rfl⟩
section
variable {P:Program}{kt e:TypeId}{κ:α->Value}{h:AH}{r:Nat}{f:α->Option Value}{i:TypeInfo}{z:Value}
theorem cX.look (m:cX κ h r f) (K:kf P kt κ) (hi:P.info? e=ψ i) (hz:i.zero=ψ z) (hp:Eva.pl z=true) (a:α) (ok:Bool) :
  bp P (ψ (.map kt e)) (.map (ψ r)) (κ a) ok h=ψ (cond ok (.tuple #[(f a).getD z,.bool (f a).isSome]) ((f a).getD z)):=by
 obtain⟨l,c,h1,h2⟩:=m;unfold bp lr;simp only[h1,hi,K.pl,K.chk,Bool.and_self,cond_true,h2,hz];rcases iD K a l 0 with⟨g1,g2⟩ | ⟨j,v,b,g1,g2,g3,-⟩
 .rw[g1,g2];show cond (Eva.pl z) _ η=_;rw[hp];rfl
 .rw[g1,g3];rfl
theorem cX.put (m:cX κ h r f) (K:kf P kt κ) (a:α) (v:Value) :
  ∃h',ej P h (ψ (.map kt e)) (.map (ψ r)) (κ a) v=ψ (undef,h')/\cX κ h' r (λx=>if x=a then ψ v else f x)/\h'.next=h.next/\∀b,b≠r->h'.get b=h.get b:=by
 obtain⟨l,c,h1,h2⟩:=m;have hput:∀ao,(h.put r ao).get r=ψ ao:=λao=>by rw[get_put,if_pos rfl]
 have hne:∀ao b,b≠r->(h.put r ao).get b=h.get b:=λao b hb=>by rw[get_put,if_neg hb]
 unfold ej;simp only[h1,K.pl,K.chk,Bool.and_self,cond_true];rcases iD K a l 0 with⟨g1,g2⟩ | ⟨j,v0,b,g1,g2,g3,g4⟩
 .rw[g1];refine⟨h.put r (.map (l.map (tz κ) ++ [(κ a,v,c)]) (c+1)),rfl,⟨l ++ [(a,v,c)],c+1,?_,λx=>?_⟩,rfl,λb hb=>hne _ b hb⟩
  .rw[hput,List.map_append];rfl
  .simp only[h2];unfold kY at g2⊢;rw[List.find?_append];by_cases hx:x=a
   .subst hx;have:List.find? (λy=>decide (y.1=x)) l=none:=by simpa using g2
    simp[this]
   .have:¬a=x:=λe=>hx e.symm;simp[hx,this]
 .rw[g1];have hs:jw (κ a) (l.map (tz κ))[0+j]? = true:=by
   rw[Nat.zero_add,List.getElem?_map,g2];exact K.bits a
  refine⟨h.put r (.map (oW (κ a) v (l.map (tz κ)) (0+j)) c),by show cond (jw (κ a) (l.map (tz κ))[0+j]?) _ η=_;rw[hs];rfl,⟨l.set j (a,v,b),c,?_,λx=>?_⟩,rfl,λb hb=>hne _ b hb⟩
  .rw[hput,Nat.zero_add,qW g2]
  .rw[g4 v x];simp only[h2]
end
end
def kN (a:Nat):Value:=ω ξ a
def Lb (a:Nat×Nat):Value:=.agg #[ω ξ a.1,ω ξ a.2]
section
variable {P:Program}{α β:Type}
theorem aC (s:Sem α) (k:α->Sem β):av P (s >>= k)=(av P s).bind λa=>av P (k a):=by
 show av P (Sem.bind s k)=_
 induction s with
 | pure a=>rfl
 | program f ih=>exact ih P
 | mark m f ih=>exact ih
 | _=>rfl
theorem bm (a:α):av P (pure a:Sem α)=ψ a:=rfl
theorem cF {t:TypeId}{d:TypeDesc}(h:P.underlying t=ψ d):av P (underlying t)=ψ d:=by
 unfold underlying;rw[aC];show(Option.bind (ψ P) _)=_;simp only[Option.bind_some,h];rfl
theorem oL {t:TypeId}{i:TypeInfo}(h:P.info? t=ψ i):av P (sizeOf t)=ψ i.size:=by
 unfold sizeOf typeInfo;rw[aC,aC];show(Option.bind (Option.bind (ψ P) _) _)=_;simp only[Option.bind_some,h];rfl
theorem Jv {t:TypeId}{k:IntKind}(h:P.underlying t=ψ (.int k)) (d:Nat) (x y:Int):av P (Op.equalIn (d+1) t (ω ξ x) (ω ξ y))=ψ (x == y):=by
 unfold Op.equalIn;rw[aC,cF h];rfl
theorem F6 {t:TypeId}{k:IntKind}(h:P.underlying t=ψ (.int k)) (e:Bool) (d:Nat) (x:Int):av P (Instr.checkKey e (d+1) t (ω ξ x))=ψ ():=by
 unfold Instr.checkKey;rw[aC,cF h];rfl
theorem Lc {kt:TypeId}{d:IntKind}(hu:P.underlying kt=ψ (.int d)):kf P kt kN where
 pl:=λa=>by rfl
 eq:=λa b=>by
  show av P (Op.equalIn (9999+1) kt (ω ξ a) (ω ξ b))=_;rw[Jv hu]
  congr 1
  exact decide_eq_decide.2 Int.ofNat_inj
 chk:=λe a=>by
  show(match av P (Instr.checkKey e (9999+1) kt (ω ξ a)) with | some _=>true | none=>false)=true;rw[F6 hu]
 bits:=λa=>by
  show Instr.sameBits 10000 (ω ξ a) (ω ξ a)=true;unfold Instr.sameBits;simp
theorem bY (c:Prop) [Decidable c] (s t:Sem α):av P (if c then s else t)=if c then av P s else av P t:=by split <;>rfl
theorem aE {et:TypeId}{d:IntKind}{i:TypeInfo}(he:P.underlying et=ψ (.int d)) (hi:P.info? et=ψ i) (x:Array Value) (j:Nat){v:Value}(hv:x[j]? = ψ v):av P (part et x j)=ψ v:=by
 unfold part isAgg;rw[aC,aC,cF he];simp only[Option.bind_some,hv];rfl
theorem Jw {kt et:TypeId}{d:IntKind}{i:TypeInfo}(hu:P.underlying kt=ψ (.array 2 et)) (he:P.underlying et=ψ (.int d)) (hi:P.info? et=ψ i) (hs:i.size=1):kf P kt Lb where
 pl:=λa=>by rfl
 eq:=λa b=>by
  obtain⟨a1,a2⟩:=a;obtain⟨b1,b2⟩:=b;show av P (Op.equalIn (9999+1) kt (.agg #[ω ξ a1,ω ξ a2]) (.agg #[ω ξ b1,ω ξ b2]))=_;unfold Op.equalIn;rw[aC,cF hu];simp only[Option.bind_some];rw[aC,oL hi,hs];simp only[Option.bind_some];simp only[Std.Legacy.Range.forIn_eq_forIn_range',Std.Legacy.Range.size,List.range',List.forIn_cons,List.forIn_nil];simp[aC,aE he hi,Jv he,List.range',bm,bY];by_cases h1:a1=b1 <;>by_cases h2:a2=b2 <;>simp[h1,h2,aC,aE he hi,Jv he,bm,beq_iff_eq,Int.ofNat_inj]
 chk:=λe a=>by
  show(match av P (Instr.checkKey e (9999+1) kt (.agg #[ω ξ a.1,ω ξ a.2])) with | some _=>true | none=>false)=true;unfold Instr.checkKey;rw[aC,cF hu];simp only[Option.bind_some];simp[aC,aE he hi,F6 he,oL hi,hs,List.range',bm]
 bits:=λa=>by
  show Instr.sameBits 10000 (.agg #[ω ξ a.1,ω ξ a.2]) (.agg #[ω ξ a.1,ω ξ a.2])=true;unfold Instr.sameBits;simp[Instr.sameBits]
end
end Eva
end
section
open Go Go.RowKit
namespace Eva
theorem wZ:kf Tryz.prog 3 kN:=Lc (d:=.i64) Tryz.underlying3
theorem tB:∃i,Tryz.prog.info? 3=ψ i/\i.zero=ψ (ω ξ 0):=by
 obtain⟨i,h1,h2⟩:∃i,Tryz.prog.info? 3=ψ i/\(match Tryz.prog.info? 3 with | some i=>i.zero | none=>η)=ψ (ω ξ 0):=by
  cases h:Tryz.prog.info? 3 with
  | some i=>exact⟨i,rfl,by rw[<-h];kernel_rfl⟩
  | none=>
   have:(Tryz.prog.info? 3).isSome=true:=by kernel_rfl
   rw[h]at this;cases this
 exact⟨i,h1,by rw[h1]at h2;exact h2⟩
def xS (L:List Nat):Nat->Option Value:=λa=>if a∈L then ψ (ω ξ ((L.idxOf a:Nat):Int)) else η
theorem Ei {L:List Nat}{b:Nat}(hb:b ∉ L):(λx=>if x=b then ψ (Value.int .i64 (L.length:Int)) else xS L x)=xS (L ++ [b]):=by
 funext x
 unfold xS;by_cases e:x=b
 .subst e;rw[if_pos rfl,if_pos (by simp),List.idxOf_append,if_neg hb];simp
 .rw[if_neg e];by_cases h:x∈L
  .rw[if_pos h,if_pos (by simp[h]),List.idxOf_append,if_pos h]
  .rw[if_neg h,if_neg (by simp[h,e])]
section
variable {h h0:AH}{Q:Value->AH->Prop}{F:Nat->Prop}{A:Option Addr}{n K:Nat}
theorem Au {L:List Nat}{pm:Nat}(m:cX kN h pm (xS L)) (b:Nat):bp Tryz.prog (ψ (.map 3 3)) (.map (ψ pm)) (ω ξ (b:Int)) true h=ψ (.tuple #[ω ξ (if b∈L then((L.idxOf b:Nat):Int) else 0),.bool (decide (b∈L))]):=by
 obtain⟨i,h1,h2⟩:=tB;have:=m.look wZ h1 h2 rfl b true;show bp _ _ _ (kN b) true h=_;rw[this];unfold xS;by_cases hb:b∈L
 .simp[hb]
 .simp[hb]
theorem Ej {L:List Nat}{pm:Nat}(m:cX kN h pm (xS L)) (b:Nat):bp Tryz.prog (ψ (.map 3 3)) (.map (ψ pm)) (ω ξ (b:Int)) false h=ψ (ω ξ (if b∈L then((L.idxOf b:Nat):Int) else 0)):=by
 obtain⟨i,h1,h2⟩:=tB;have:=m.look wZ h1 h2 rfl b false;show bp _ _ _ (kN b) false h=_;rw[this];unfold xS;by_cases hb:b∈L
 .simp[hb]
 .simp[hb]
theorem yW {L:List Nat}{pm:Nat}(m:cX kN h pm (xS L)){b:Nat}(hb:b ∉ L):∃h',ej Tryz.prog h (ψ (.map 3 3)) (.map (ψ pm)) (ω ξ (b:Int)) (ω ξ (L.length:Int))=ψ (undef,h')/\cX kN h' pm (xS (L ++ [b]))/\h'.next=h.next/\∀c,c≠pm->h'.get c=h.get c:=by
 obtain⟨h',x1,x2,x3,x4⟩:=m.put (P:=Tryz.prog) (e:=3) wZ b (ω ξ (L.length:Int));rw[Ei hb]at x2;exact⟨h',x1,x2,x3,x4⟩
theorem Ek {S:List (List cm)}{sb:Nat}(hlt:sb<h0.next) (hb:ldC h0 sb 0=ψ (Y A n K)) (hs:Sa (Rc.slice aS) F h0 A n K S) (hS:∀r∈S,r.length<=100000):kX h0 204 #[ν (ψ ⟨sb,0,η⟩)] n (cL S):=by
 refine⟨by kernel_rfl,λa ha h tg tfb J Q hJn hJs htg htell hJ0 hQ=>?_⟩;have nw0:=hJn 0 h hJ0;obtain⟨b,o,A',n',K',r,rfl,hF,hbl,hr,e0,s0⟩:=hs.row (k:=a) ha;have hrS:cL S a=r:=by unfold cL;rw[hr];rfl
 have hrl:=hS r (List.mem_of_getElem? hr);have hn':=s0.len;refine pe ⟨sb,0,rfl,_,_,_,(nw0.ldC hlt 0).trans hb,a,rfl,_,_,rfl,ha,_,_,_,(nw0.ldC hbl _).trans e0,λm x h1=>∃i:Nat,x=i/\i<=n'/\m=n' - i/\J i h1,n',⟨0,rfl,Nat.zero_le _,rfl,hJ0⟩,?_⟩;rintro m x h1 ⟨i,rfl,hi,rfl,hJ1⟩;refine⟨λhlt=>?_,λhge=>?_⟩
 .obtain⟨b3,o3,x3,x4,x5,rfl,-,-,hx,f0,f1,f2⟩:=(s0.nw (hJn _ _ hJ1)).tri (k:=i) U;refine⟨i,rfl,_,_,rfl,U,_,_,_,wS f0 f1 f2,λh2 e2=>?_⟩;obtain⟨h3,s3,k3,g3,z3⟩:=aD (vs:=[ω ξ x3,ω ξ x4,ω ξ x5]) e2 rfl (eR rfl rfl rfl);refine⟨h3,s3,_,_,_,wS (aa g3 rfl) (aa g3 rfl) (aa g3 rfl),htg,?_⟩;refine htell i (x3,x4,x5) h3 _ (hJs _ _ _ hJ1 k3) (by rw[hrS];exact hx) λh4 hJ4=>⟨rfl,_,ae U U,n' - (i+1),U,i+1,U,U,rfl,hJ4⟩
 .have hin:i=(cL S a).length:=by rw[hrS];omega
  rw[hin]at hJ1;exact hQ h1 hJ1
end
end Eva
end
section
open Go Go.RowKit
namespace Eva
theorem Mn:tf Tryz.prog 354 3 24=true:=by kernel_rfl
theorem Ld:tf Tryz.prog 352 1 24=true:=by kernel_rfl
section
variable {h h':AH}{Q:Value->AH->Prop}{F:Nat->Prop}{A:Option Addr}{n K:Nat}{xs:List Int}
theorem F7 (hs:Sa cI F h A n K xs) (hn:n<=100000) (hK:∀A' K' h',ay cI h' (ai A') 3 A' n K' xs->Nw h h'->(∀b,ai A' b->h.next<=b)->Q (Y A' n K') h'):WC Tryz.prog 42 [Y A n K] h Q:=by
 refine cg ⟨λhA=>?_,λhA=>?_⟩
 .obtain⟨h0,h1⟩:=hs.nil0 hA;refine⟨h0,h1,?_⟩;subst hA h0 h1;have hx:xs = []:=List.eq_nil_of_length_eq_zero hs.len;subst hx;exact hK η 0 h (ay.nil _ _ _ _) (Nw.refl _) (λb hb=>hb.elim)
 .obtain⟨b,o,rfl⟩:=hs.some_ hA;refine⟨b,o,rfl,λh1 e1=>?_⟩;obtain⟨k1,g1,z1⟩:=aj e1;have hB:ay cI h1 (ai (ψ ⟨h.next,0,η⟩)) 3 (ψ ⟨h.next,0,η⟩) 0 (2*0) []:=ay.lit (r:=cI) (xs:=[]) (n:=0) g1 rfl U rfl rfl (by simp) (by simp);obtain⟨A',K',h',x1,x2,x3,x4⟩:=bq (gR _) (r:=cI) dR hB (hs.nw k1).z U U;rw[Nat.zero_add]at x1 x2;rw[List.nil_append]at x2;refine⟨A',n,K',h',x1,hK _ _ _ x2 (x3.is_nw k1 λb hb=>?_) λb hb=>?_⟩
  .have:b=h.next:=hb;omega
  .rcases x4 b hb with h2 | h2
   .have:b=h.next:=h2;omega
   .omega
end
theorem w6 (N:ab) (outs L:List Nat) (a:Nat) (bs:List Nat):(N.aRow outs L a bs).length<=bs.length:=List.length_filterMap_le _ _
structure AB (h0:AH) (N:ab) (p:List (List Int)) (c pm sb:Nat) (D:Nat->Prop) (A14:Option Addr) (K14 i:Nat) (S:List (List cm)) (h:AH) (A5:Option Addr) (n5 K5:Nat) (L:List Nat):Prop where
 nw:Nw h0 h
 fld:iB N p c L i S
 len:L.length=n5
 arcs:ay cI h (ai A5) 3 A5 n5 K5 (ints L)
 map_:cX kN h pm (xS L)
 sbx:Bk h sb [Y A14 i K14] 351
 stp:ay (Rc.slice aS) h D 352 A14 i K14 S
 dlo:∀b,D b->h0.next<=b/\b<h.next/\b≠pm/\b≠sb
 alo:∀b,ai A5 b->h0.next<=b/\b≠pm/\b≠sb/\¬D b
 pos:h0.next<=pm/\h0.next<=sb/\pm≠sb/\pm<h.next/\sb<h.next
section
variable {h h' h0:AH}{N:ab}{p:List (List Int)}{c pm sb:Nat}{D:Nat->Prop}{A14 A5:Option Addr}{K14 i n5 K5:Nat}{S:List (List cm)}{L:List Nat}{a b:Nat}
theorem AB.keep (B:AB h0 N p c pm sb D A14 K14 i S h A5 n5 K5 L) (hk:∀b,b<h.next->h'.get b=h.get b) (hn:h.next<=h'.next):AB h0 N p c pm sb D A14 K14 i S h' A5 n5 K5 L:=by
 obtain⟨p1,p2,p3,p4,p5⟩:=B.pos;have a:Nw h h':=⟨hn,hk⟩;exact⟨B.nw.trans a,B.fld,B.len,B.arcs.nw a,B.map_.keep (hk _ p4),a.bk p5 B.sbx,B.stp.nw a,λb hb=>by have:=B.dlo b hb;omega,B.alo,U⟩
theorem AB.next (B:AB h0 N p c pm sb D A14 K14 i S h A5 n5 K5 L) (a:Nw h h'):AB h0 N p c pm sb D A14 K14 i S h' A5 n5 K5 L:=B.keep a.get a.next
theorem AB.grow (B:AB h0 N p c pm sb D A14 K14 i S h A5 n5 K5 L) (hok:N.Ok) (hfew:N.na<=1000){r:Nat}(ha:L[r]? = ψ a) (hb:N.aIn (N.outs p 1 c) a b) (hn:b ∉ L) :
  ∃h19,ej Tryz.prog h (ψ (.map 3 3)) (.map (ψ pm)) (ω ξ (b:Int)) (ω ξ (n5:Int))=ψ (undef,h19)/\
   ∀h20,h20=AH.new h19 (.cells [ω ξ (b:Int)] 3 false)->∃A' K' h21,ah Tryz.prog h20 (ψ (.slice 3)) (ψ (.slice 3)) (Y A5 n5 K5) (Y (ψ ⟨h19.next,0,η⟩) 1 2)=ψ (Y A' (n5+1) K',h21)/\
    AB h0 N p c pm sb D A14 K14 i S h21 A' (n5+1) K' (L ++ [b])/\(∀x,ai A' x->ai A5 x\/h.next<=x)/\h.next<=h21.next/\(∀x,x<h.next->x≠pm->¬ai A5 x->h21.get x=h.get x):=by
 obtain⟨p1,p2,p3,p4,p5⟩:=B.pos;have hL:=B.fld.len;obtain⟨h19,x1,x2,x3,x4⟩:=yW B.map_ hn;rw[B.len]at x1;refine⟨h19,x1,λh20 e20=>?_⟩;obtain⟨k20,g20,z20⟩:=aj e20;have hn5:=B.len;have arcs19:ay cI h19 (ai A5) 3 A5 n5 K5 (ints L):=B.arcs.keep (λx hx _=>x4 x (λe=>(B.alo x hx).2.1 e)) U;have hz:Sz cI (λx=>x=h19.next) h20 (ψ ⟨h19.next,0,η⟩) 1 2 [(b:Int)]:=Sz.one g20 rfl U rfl rfl;obtain⟨A',K',h21,y1,y2,y3,y4⟩:=bq (gR _) (r:=cI) dR (arcs19.nw k20) hz U U;have z21:=y3.next;have same:∀x,x<h.next->x≠pm->¬ai A5 x->h21.get x=h.get x:=λx hx h1 h2=>(y3.get x U h2).trans ((k20.get x U).trans (x4 x h1));have hA:∀x,ai A' x->ai A5 x\/h.next<=x:=λx hx=>(y4 x hx).imp id (λh=>U);have nA:∀{x},D x->¬ai A5 x:=λhd ha=>(B.alo _ ha).2.2.2 hd;refine⟨A',K',h21,y1,⟨⟨by have:=B.nw.next;omega,λx hx=>(same x (by have:=B.nw.next;omega) U (λha=>by have:=(B.alo x ha).1;omega)).trans (B.nw.get x hx)⟩,B.fld.add hok ha hb hn,by simp[hn5],?_,?_,?_,?_,λx hx=>by have:=B.dlo x hx;omega,λx hx=>?_,U⟩,hA,U,same⟩
 .have:ints (L ++ [b])=ints L ++ [(b:Int)]:=by simp[ints]
  rw[this];exact y2
 .refine x2.keep ((y3.get _ U (λha=>(B.alo _ ha).2.1 rfl)).trans (k20.get _ U))
 .exact(same _ p5 (Ne.symm p3) (λha=>(B.alo _ ha).2.2.1 rfl)).trans B.sbx
 .exact B.stp.keep (λx hx hlt=>same x hlt (B.dlo x hx).2.2.1 (nA hx)) U
 .rcases hA x hx with h1 | h1
  .exact B.alo x h1
  .exact⟨U,U,U,λhd=>by have:=(B.dlo x hd).2.1;omega⟩
end
end Eva
end
section
open Go Go.RowKit
namespace Eva
section
variable {h h' h0 h1:AH}{N:ab}{p:List (List Int)}{c pm sb top:Nat}{D:Nat->Prop}{A14 A5 A8:Option Addr}{K14 i n5 K5 n8 K8:Nat}{S:List (List cm)}{L:List Nat}{a b:Nat}{l:List cm}
theorem pC (o:ay aS h (ai A8) 354 A8 n8 K8 l) (hn:n8<=2000) (s:cm) (e:h1=AH.new h (.cells [ω ξ s.1,ω ξ s.2.1,ω ξ s.2.2] 354 false)) :
  ∃A' K' h2,ah Tryz.prog h1 (ψ (.slice 354)) (ψ (.slice 354)) (Y A8 n8 K8) (Y (ψ ⟨h.next,0,η⟩) 1 2)=ψ (Y A' (n8+1) K',h2)/\ay aS h2 (ai A') 354 A' (n8+1) K' (l ++ [s])/\Mt (ai A8) h h2/\h.next<h2.next/\∀b,ai A' b->ai A8 b\/h.next<=b:=by
 obtain⟨k1,g1,z1⟩:=aj e;have hz:Sz aS (λx=>x=h.next) h1 (ψ ⟨h.next,0,η⟩) 1 2 [s]:=Sz.one g1 rfl U rfl rfl;obtain⟨A',K',h2,y1,y2,y3,y4⟩:=bq (fB _ _ _) (r:=aS) Mn (o.nw k1) hz U U;have z2:=y3.next;exact⟨A',K',h2,y1,y2,⟨U,λb hb hn=>(y3.get b U hn).trans (k1.get b hb)⟩,U,λb hb=>(y4 b hb).imp id λh=>U⟩
theorem AB.off (B:AB h0 N p c pm sb D A14 K14 i S h A5 n5 K5 L) (m:Mt (ai A8) h h') (h8:∀b,ai A8 b->top<=b/\¬ai A5 b) (ht:pm<top/\sb<top/\∀b,D b->b<top):AB h0 N p c pm sb D A14 K14 i S h' A5 n5 K5 L:=by
 obtain⟨p1,p2,p3,p4,p5⟩:=B.pos;obtain⟨t1,t2,t3⟩:=ht;have z:=m.next;have lo:∀{x},x<top->¬ai A8 x:=λhx hb=>by have:=(h8 _ hb).1;omega
 have nA:∀{x},ai A5 x->¬ai A8 x:=λhx hb=>(h8 _ hb).2 hx;exact⟨⟨by have:=B.nw.next;omega,λx hx=>(m.get x (by have:=B.nw.next;omega) (lo U)).trans (B.nw.get x hx)⟩,B.fld,B.len,B.arcs.keep (λx hx hlt=>m.get x hlt (nA hx)) z,B.map_.keep (m.get _ p4 (lo t1)),m.bk p5 (lo t2) B.sbx,B.stp.keep (λx hx hlt=>m.get x hlt (lo (t3 x hx))) z,λb hb=>by have:=B.dlo b hb;omega,B.alo,U⟩
end
theorem fa {l:List Nat}{a:Nat}:(0<=cE l a↔a∈l):=by
 unfold cE;by_cases h:a∈l
 .rw[if_pos h];exact⟨λ_=>h,λ_=>Int.natCast_nonneg _⟩
 .rw[if_neg h];exact⟨λh'=>absurd h' U,λh'=>absurd h' h⟩
section
variable {h:AH}{Q:Value->AH->Prop}{Fa F F1 F2:Nat->Prop}{g:Nat}{N:ab}{p:List (List Int)}{c:Nat}{A1 A2:Option Addr}{n1 n2 K1 K2:Nat}
theorem F8 (G:gS h Fa F g N) (s1:Sa cI F1 h A1 n1 K1 (ints (N.ins p 1 c))) (s2:Sa cI F2 h A2 n2 K2 (ints (N.outs p 1 c)))
  (hK:∀(L:List Nat) (S:List (List cm)) (sb:Nat) (A':Option Addr) (K':Nat) (h':AH),iB N p c L L.length S->kX h' 204 #[ν (ψ ⟨sb,0,η⟩)] L.length (cL S)->Sa cI (λb=>h.next<=b) h' A' n1 K' (ints (List.range n1))->Nw h h'->
   Q (.agg #[ω ξ (L.length:Int),Y A' n1 K',.func (.func 204) #[] #[ν (ψ ⟨sb,0,η⟩)]]) h') :
  WC Tryz.prog 130 [ν (ψ ⟨g,0,η⟩),.agg #[Y A1 n1 K1,Y A2 n2 K2]] h Q:=by
 have hna:=G.few.2;have hl1:(N.ins p 1 c).length=n1:=by simpa[ints]using s1.len
 have hl2:(N.outs p 1 c).length=n2:=by simpa[ints]using s2.len
 have hn1:n1<=1000:=by rw[<-hl1];exact Nat.le_trans (aL _ _) hna
 have hn2:n2<=1000:=by rw[<-hl2];exact Nat.le_trans (aL _ _) hna
 have hasc:(N.ins p 1 c).Pairwise (· < ·):=bH _ _;refine rL λh1 e1 h2 e2=>?_;obtain⟨k1,g1,z1⟩:=aj e1;obtain⟨k2,g2,z2⟩:=aj e2;have gb:Bk h2 h.next [Y A1 n1 K1,Y A2 n2 K2] 253:=k2.bk U g1;have G2:=G.nw (k1.trans k2);have s22:=s2.nw (k1.trans k2);refine⟨_,_,_,aa (k2.bk U g1) rfl,F7 (s1.nw (k1.trans k2)) U λA4 K4 h3 o3 k3 hA4=>⟨_,_,_,rfl,λh4 e4=>?_⟩⟩;obtain⟨k4,g4,z4⟩:=aj e4;have z3:=k3.next;have o3lt:∀b,ai A4 b->b<h3.next:=λb hb=>o3.own hb;refine⟨λm x h5=>∃i:Nat,x=i/\i<=n1/\m=n1 - i/\cX kN h5 h3.next (xS ((N.ins p 1 c).take i))/\h5.next=h4.next/\∀b,b≠h3.next->h5.get b=h4.get b,n1,⟨0,rfl,Nat.zero_le _,rfl,by
  have:xS ((N.ins p 1 c).take 0)=λ_=>none:=by funext x;simp[xS]
  rw[this];exact cX.new g4,rfl,λ_ _=>rfl⟩,?_⟩
 rintro m x h5 ⟨i,rfl,hi,rfl,m5,z5,q5⟩;have k5:Nw h3 h5:=⟨U,λb hb=>(q5 b U).trans (k4.get b hb)⟩;refine⟨λhlt=>?_,λhge=>?_⟩
 .have hil:i<n1:=U;obtain⟨b1,o1,x2,hA4',-,-,hx,e0⟩:=(o3.nw k5).sa.int (k:=i) hil;obtain⟨a,ha⟩:∃a,(N.ins p 1 c)[i]? = ψ a:=⟨_,List.getElem?_eq_getElem U⟩;have hxa:x2=(a:Int):=by simp[ints,ha]at hx;exact hx.symm
  subst hxa;have hni:a ∉ (N.ins p 1 c).take i:=λhm=>by
   obtain⟨j,hj,he⟩:=List.mem_take_iff_getElem.1 hm;have h2:(N.ins p 1 c)[j]? = ψ a:=by rw[List.getElem?_eq_getElem U,he]
   have:=iu hasc h2 ha;omega
  obtain⟨h6,y1,y2,y3,y4⟩:=yW m5 hni;have hlen:((N.ins p 1 c).take i).length=i:=by rw[List.length_take];omega
  rw[hlen]at y1;refine⟨i,rfl,b1,o1,hA4',hil,_,e0,h6,y1,_,ae U U,n1 - (i+1),U,i+1,U,U,rfl,?_,U,λb hb=>(y4 b hb).trans (q5 b hb)⟩;rw[List.take_add_one,ha];exact y2
 obtain rfl:i=n1:=U;rw[List.take_of_length_le U]at m5;clear hge hi;intro h7 e7;obtain⟨k7,g7,z7⟩:=aj e7;have hpm:h3.next<h5.next:=U;have B7:AB h2 N p c h3.next h5.next (λ_=>False) η 0 0 [] h7 A4 i K4 (N.ins p 1 c):=by
  have w7:=k5.trans k7;refine⟨k3.trans w7,iB.start N p c,hl1,o3.nw w7,m5.keep (k7.get _ U),g7,ay.nil _ _ _ _,λb hb=>hb.elim,λb hb=>?_,U⟩;have:=hA4 b hb;have:=o3lt b hb;exact⟨U,U,U,id⟩
 refine⟨λm A5 n5 K5 x h8=>∃(j:Nat) (L:List Nat) (S:List (List cm)) (A14:Option Addr) (K14:Nat) (D:Nat->Prop),x=j/\m=N.na - j/\AB h2 N p c h3.next h5.next D A14 K14 j S h8 A5 n5 K5 L/\∀r∈S,r.length<=1000,N.na,⟨0,_,_,_,_,_,rfl,rfl,B7,by simp⟩,?_⟩;rintro m A5 n5 K5 x h8 ⟨j,L,S,A14,K14,D,rfl,rfl,B8,hS⟩;have hLna:=B8.fld.len;have hLn:=B8.len;refine⟨λhlt=>?_,λhge=>?_⟩
 .have hj:j<n5:=U;obtain⟨b2,o2,x5,rfl,-,-,hx,e0⟩:=B8.arcs.sa.int (k:=j) hj;obtain⟨a,ha⟩:∃a,L[j]? = ψ a:=⟨_,List.getElem?_eq_getElem U⟩;have hxa:x5=(a:Int):=by simp[ints,ha]at hx;exact hx.symm
  subst hxa;have han:=(B8.fld.mem a (List.mem_of_getElem? ha)).1;have hto:=(ab.to_lt G.ok han).1;refine⟨j,rfl,b2,o2,rfl,hj,_,e0,GX (G2.nw B8.nw) han ⟨_,rfl,GZ (G2.nw B8.nw) hto λA6 K6 h10 s6 k6=>⟨_,_,_,rfl,?_⟩⟩⟩;have hfl:(N.from_ (N.to a)).length<=1000:=Nat.le_trans (aL _ _) hna;obtain⟨bs,hbs⟩:∃bs,N.from_ (N.to a)=bs:=⟨_,rfl⟩;rw[hbs]at s6 hfl⊢;have B10:=B8.next k6;have hDt:∀b,D b->b<h10.next:=λb hb=>(B10.dlo b hb).2.1;obtain⟨t1,t2,t3,t4,t5⟩:=B10.pos;refine⟨λm A7 n7 K7 A8 n8 K8 x h11=>∃(q:Nat) (L':List Nat),x=q/\q<=bs.length/\m=bs.length - q/\AB h2 N p c h3.next h5.next D A14 K14 j S h11 A7 n7 K7 L'/\L'[j]? = ψ a/\(∀b∈bs.take q,N.aIn (N.outs p 1 c) a b->b∈L')/\ay aS h11 (ai A8) 354 A8 n8 K8 (N.aRow (N.outs p 1 c) L' a (bs.take q))/\(∀b,ai A8 b->h10.next<=b/\¬ai A7 b)/\Nw h10 h10/\h10.next<=h11.next/\Sa cI (λb=>h8.next<=b/\b<h10.next/\¬ai (ψ ⟨b2,o2,η⟩) b) h11 A6 bs.length K6 (ints bs)/\(∀b,ai A7 b->ai (ψ ⟨b2,o2,η⟩) b\/h10.next<=b),bs.length,⟨0,L,rfl,Nat.zero_le _,rfl,B10,ha,by simp,ay.nil _ _ _ _,λb hb=>hb.elim,Nw.refl _,Nat.le_refl _,s6.mono λb hb hlt=>⟨hb,hlt,λho=>by have:=B8.arcs.own ho;omega⟩,λb hb=>.inl hb⟩,?_⟩;rintro m A7 n7 K7 A8 n8 K8 x h11 ⟨q,L',rfl,hq,rfl,B11,ha',hcl,o8,u8,-,hz11,s11,hA7⟩;have hn8:n8<=1000:=by
   have h1:=o8.len;have h2:=w6 N (N.outs p 1 c) L' a (bs.take q);have h3:(bs.take q).length<=bs.length:=by rw[List.length_take];omega
   omega
  refine⟨λhlt=>?_,λhge=>?_⟩
  .have hql:q<bs.length:=U;obtain⟨b3,o3',x8,hA6,-,-,hx8,f0⟩:=s11.int (k:=q) hql;obtain⟨b,hb⟩:∃b,bs[q]? = ψ b:=⟨_,List.getElem?_eq_getElem U⟩;have hxb:x8=(b:Int):=by simp[ints,hb]at hx8;exact hx8.symm
   subst hxb;have hbn:b<N.na:=((ab.mem_from G.ok).1 (by rw[hbs];exact List.mem_of_getElem? hb)).1;have tb:=ab.turn_bd G.ok a b;have wb:=ab.w_bd G.ok b;refine⟨q,rfl,b3,o3',hA6,hql,_,f0,G0 (G2.nw B11.nw) han hbn λh12 k12=>⟨_,rfl,me (G2.nw (B11.nw.trans k12)) hbn ⟨_,rfl,?_⟩⟩⟩;have B12:=B11.next k12;have o12:=o8.nw k12;have s12:=s11.nw k12;have hz12:=k12.next;have hrow:=sY (N:=N) (outs:=N.outs p 1 c) (L:=L') (a:=a) hb;have w1:IntKind.i64.wrap ((q:Int)+1)=((q+1:Nat):Int):=by rw[Int.natCast_succ];exact ae U U
   have skip:N.aStep (N.outs p 1 c) L' a b=η->¬N.aIn (N.outs p 1 c) a b->∃x11:Int,IntKind.i64.wrap ((q:Int)+1)=x11/\∃m':Nat,m' < bs.length - q/\∃(q':Nat) (L'':List Nat),x11=q'/\q'<=bs.length/\m' = bs.length - q'/\AB h2 N p c h3.next h5.next D A14 K14 j S h12 A7 n7 K7 L''/\L''[j]? = ψ a/\(∀b∈bs.take q',N.aIn (N.outs p 1 c) a b->b∈L'')/\ay aS h12 (ai A8) 354 A8 n8 K8 (N.aRow (N.outs p 1 c) L'' a (bs.take q'))/\(∀b,ai A8 b->h10.next<=b/\¬ai A7 b)/\Nw h10 h10/\h10.next<=h12.next/\Sa cI (λb=>h8.next<=b/\b<h10.next/\¬ai (ψ ⟨b2,o2,η⟩) b) h12 A6 bs.length K6 (ints bs)/\(∀b,ai A7 b->ai (ψ ⟨b2,o2,η⟩) b\/h10.next<=b):=λhs hi=>by
    refine⟨_,w1,bs.length - (q+1),U,q+1,L',rfl,hql,rfl,B12,ha',λy hy hin=>?_,?_,u8,Nw.refl _,U,s12,hA7⟩
    .rw[List.take_add_one,hb]at hy;rcases List.mem_append.1 hy with hy | hy
     .exact hcl y hy hin
     .simp at hy;subst hy;exact absurd hin hi
    .rw[hrow,hs];simpa using o12
   refine⟨λhge=>?_,λhlt2=>?_⟩
   .exact skip (by unfold ab.aStep;rw[if_pos hge]) (λhin=>by have:=hin.1;unfold aT at this;omega)
   have ht:N.turn a b<aT:=Int.not_le.1 hlt2;refine⟨_,_,_,aa (B12.nw.bk U gb) rfl,uZ b (s22.nw B12.nw) (bH _ _) U ⟨_,rfl,λhpl=>?_,λhpl=>?_⟩⟩
   ·
    have hbo:=fa.1 hpl;have hplI:cE (N.outs p 1 c) b=(((N.outs p 1 c).idxOf b:Nat):Int):=by unfold cE;rw[if_pos hbo]
    rw[hplI];intro h15 e15;obtain⟨A10,K10,h16,y1,y2,y3,y4,y5⟩:=pC o12 U (0,(((N.outs p 1 c).idxOf b:Nat):Int),N.turn a b) e15;refine⟨A10,n8+1,K10,h16,y1,_,w1,bs.length - (q+1),U,q+1,L',rfl,hql,rfl,B12.off y3 u8 ⟨t4,t5,hDt⟩,ha',λy hy hin=>?_,?_,λz hz=>?_,Nw.refl _,U,s12.off y3 λz hz ho=>by have:=(u8 z ho).1;omega,hA7⟩
    .rw[List.take_add_one,hb]at hy;rcases List.mem_append.1 hy with hy | hy
     .exact hcl y hy hin
     .simp at hy;subst hy;exact absurd hbo hin.2.1
    .rw[hrow,tc ht hbo];exact y2
    .rcases y5 z hz with h9 | h9
     .exact u8 z h9
     .exact⟨U,λho=>by have:=B12.arcs.own ho;omega⟩
   have hbo:b ∉ N.outs p 1 c:=λhm=>hpl (fa.2 hm);refine⟨λhwge=>?_,λhwlt=>?_⟩
   .exact skip (by unfold ab.aStep;rw[if_neg hlt2,if_neg hbo,if_pos hwge]) (λhin=>by have:=hin.2.2;unfold aT at this;omega)
   have hw:N.w b<aT:=Int.not_le.1 hwlt;have hin:N.aIn (N.outs p 1 c) a b:=⟨ht,hbo,hw⟩;have wc:IntKind.i64.wrap (N.turn a b+N.w b)=N.turn a b+N.w b:=ae U (by unfold aT at ht hw;omega);refine⟨_,_,Au B12.map_ b,λhbL=>?_,λhbL=>?_⟩
   ·
    have hbm:b∈L':=of_decide_eq_true hbL;rw[if_pos hbm];refine⟨_,wc,λh17 e17=>?_⟩;obtain⟨A10,K10,h16,y1,y2,y3,y4,y5⟩:=pC o12 U (((L'.idxOf b:Nat):Int),-1,N.turn a b+N.w b) e17;refine⟨A10,n8+1,K10,h16,y1,_,w1,bs.length - (q+1),U,q+1,L',rfl,hql,rfl,B12.off y3 u8 ⟨t4,t5,hDt⟩,ha',λy hy hin'=>?_,?_,λz hz=>?_,Nw.refl _,U,s12.off y3 λz hz ho=>by have:=(u8 z ho).1;omega,hA7⟩
    .rw[List.take_add_one,hb]at hy;rcases List.mem_append.1 hy with hy | hy
     .exact hcl y hy hin'
     .simp at hy;subst hy;exact hbm
    .rw[hrow,qI hin];exact y2
    .rcases y5 z hz with h9 | h9
     .exact u8 z h9
     .exact⟨U,λho=>by have:=B12.arcs.own ho;omega⟩
   ·
    have hbm:b ∉ L':=of_decide_eq_false hbL;obtain⟨h19,u1,u2⟩:=B12.grow G.ok U ha' hin hbm;refine⟨h19,u1,λh20 e20=>?_⟩;obtain⟨A12,K12,h21,v1,B21,v2,v3,v4⟩:=u2 h20 e20;have o21:ay aS h21 (ai A8) 354 A8 n8 K8 (N.aRow (N.outs p 1 c) L' a (bs.take q)):=o12.keep (λz hz hlt=>v4 z hlt (λe=>by have:=(u8 z hz).1;omega) (u8 z hz).2) v3;refine⟨A12,n7+1,K12,h21,v1,_,wc,λh22 e22=>?_⟩;obtain⟨A10,K10,h23,y1,y2,y3,y4,y5⟩:=pC o21 U ((n7:Int),-1,N.turn a b+N.w b) e22;have h8':∀z,ai A8 z->h10.next<=z/\¬ai A12 z:=λz hz=>⟨(u8 z hz).1,λho=>(v2 z ho).elim (u8 z hz).2 λh=>by have:=o12.own hz;omega⟩;have s21:=s12.keep (λz hz hlt=>v4 z hlt (λe=>hz.2.2 ((by subst e;exact absurd hz.1 (by have:=B8.pos;omega)))) (λho=>(hA7 z ho).elim hz.2.2 λh=>U)) v3;have hl7:=B12.len;refine⟨A10,n8+1,K10,h23,y1,_,w1,bs.length - (q+1),U,q+1,L' ++ [b],rfl,hql,rfl,B21.off y3 h8' ⟨t4,t5,hDt⟩,by rw[List.getElem?_append_left (List.getElem?_eq_some_iff.1 ha').1];exact ha',λy hy hin'=>?_,?_,λz hz=>?_,Nw.refl _,U,s21.off y3 λz hz ho=>by have:=(u8 z ho).1;omega,λz hz=>(v2 z hz).elim (hA7 z) λh=>.inr U⟩
    .rw[List.take_add_one,hb]at hy;rcases List.mem_append.1 hy with hy | hy
     .exact List.mem_append_left _ (hcl y hy hin')
     .simp at hy;subst hy;simp
    .rw[sY hb,qI hin,wN hcl,List.idxOf_append,if_neg hbm];have:L'.length=n7:=hl7;simpa[this]using y2
    .rcases y5 z hz with h9 | h9
     .exact h8' z h9
     .exact⟨U,λho=>by have:=B21.arcs.own ho;omega⟩
  ·
   obtain rfl:q=bs.length:=U;rw[List.take_length]at hcl o8;refine⟨_,_,_,aa B11.sbx rfl,λh24 e24=>?_⟩;obtain⟨k24,g24,z24⟩:=aj e24;have own24:=B11.stp.nw k24;have hz:Sz (Rc.slice aS) (λz=>z=h11.next\/ai A8 z) h24 (ψ ⟨h11.next,0,η⟩) 1 2 [N.aRow (N.outs p 1 c) L' a bs]:=
    Sz.one g24 (.inl rfl) U rfl ⟨A8,n8,K8,rfl,(o8.nw k24).sa.mono λz hz _=>.inr hz⟩
   have hi14:j<=1000:=by have:=B11.fld.le;have:=B11.fld.len;omega
   have nD:∀{z},D z->z<h10.next:=λhd=>hDt _ hd;have h14D:∀z,ai A14 z->D z:=λz hz=>(B11.stp.lt hz).1;obtain⟨A15,K15,h25,y1,y2,y3,y4⟩:=gQ (r:=Rc.slice aS) (bytes:=24) Ld own24 hz (λz hz ho=>by
    have:=nD (h14D z ho);rcases hz with h9 | h9
    .omega
    .have:=(u8 z h9).1;omega) U U
   obtain⟨p1,p2,p3,p4,p5⟩:=B11.pos;have z25:=y3.next;have sb25:Bk h25 h5.next [Y A14 j K14] 351:=y3.bk U (λho=>(B11.dlo _ (h14D _ ho)).2.2.2 rfl) (k24.bk p5 B11.sbx);obtain⟨h26,s26,b26,z26,o26⟩:=ax (v:=Y A15 (j+1) K15) sb25 (o:=0) (by simp) rfl;have same:∀z,z<h11.next->z≠h5.next->¬ai A14 z->h26.get z=h11.get z:=λz hz h1 h2=>(o26 z h1).trans ((y3.get z U h2).trans (k24.get z hz));have w1:IntKind.i64.wrap ((j:Int)+1)=((j+1:Nat):Int):=by rw[Int.natCast_succ];exact ae U U
   refine⟨A15,j+1,K15,h25,y1,h26,s26,_,w1,N.na - (j+1),by have:=B11.fld.le;have:=B11.fld.len;omega,j+1,L',S ++ [N.aRow (N.outs p 1 c) L' a bs],A15,K15,λb=>(D b\/(b=h11.next\/ai A8 b)\/b=h24.next)/\b<h25.next,rfl,rfl,⟨⟨by have:=B11.nw.next;omega,λz hz=>(same z (by have:=B11.nw.next;omega) U (λho=>by have:=(B11.dlo z (h14D z ho)).1;omega)).trans (B11.nw.get z hz)⟩,by rw[<-hbs];exact B11.fld.next G.ok ha' (by rw[hbs];exact hcl),B11.len,?_,?_,b26,?_,λz hz=>?_,λz hz=>?_,U⟩,λr hr=>?_⟩
   .exact B11.arcs.keep (λz hz hlt=>same z hlt (B11.alo z hz).2.2.1 (λho=>(B11.alo z hz).2.2.2 (h14D z ho))) U
   .exact B11.map_.keep (same _ U U (λho=>(B11.dlo _ (h14D _ ho)).2.2.1 rfl))
   .refine(y2.mono (D':=λb=>(D b\/(b=h11.next\/ai A8 b)\/b=h24.next)/\b<h25.next) λz hz hlt=>⟨hz,hlt⟩).keep (λz hz hlt=>o26 z ?_) U;rcases hz.1 with h9 | (h9 | h9) | h9
    .exact(B11.dlo z h9).2.2.2
    .omega
    .have:=(u8 z h9).1;omega
    .omega
   .have e2:=hz.2;rcases hz.1 with h9 | (h9 | h9) | h9
    .have:=B11.dlo z h9;omega
    .omega
    .have:=(u8 z h9).1;omega
    .omega
   .obtain⟨a1,a2,a3,a4⟩:=B11.alo z hz;have:=B11.arcs.own hz;refine⟨a1,a2,a3,λh9=>?_⟩;rcases h9.1 with h9 | (h9 | h9) | h9
    .exact a4 h9
    .omega
    .exact(u8 z h9).2 hz
    .omega
   .rcases List.mem_append.1 hr with hr | hr
    .exact hS r hr
    .simp at hr;subst hr;have:=w6 N (N.outs p 1 c) L' a bs;omega
 ·
  have hjL:j=L.length:=by have:=B8.fld.le;omega
  intro h27 e27;obtain⟨h28,s28,k28,g28,z28⟩:=aD (vs:=[ω ξ n5,Y η 0 0,.nilFunc]) e27 rfl (eR rfl rfl rfl);have nw28:=B8.nw.trans k28;obtain⟨p1,p2,p3,p4,p5⟩:=B8.pos;refine⟨h28,s28,_,_,_,aa (nw28.bk U gb) rfl,λm x h29=>∃(q:Nat) (A17:Option Addr) (K17:Nat),x=q/\q<=i/\m=i - q/\Bk h29 h8.next [ω ξ n5,Y A17 q K17,.nilFunc] 257/\ay cI h29 (ai A17) 3 A17 q K17 (ints (List.range q))/\(∀b,ai A17 b->h28.next<=b)/\h28.next<=h29.next/\(∀b,b<h28.next->b≠h8.next->h29.get b=h28.get b),i,⟨0,η,0,rfl,Nat.zero_le _,rfl,g28,ay.nil _ _ _ _,λb hb=>hb.elim,Nat.le_refl _,λ_ _ _=>rfl⟩,?_⟩;rintro m x h29 ⟨q,A17,K17,rfl,hq,rfl,b29,o29,lo29,hz29,q29⟩;refine⟨λhlt=>?_,λhge=>?_⟩
  .refine⟨_,_,_,aa b29 rfl,λh30 e30=>?_⟩;obtain⟨k30,g30,z30⟩:=aj e30;have hz:Sz cI (λz=>z=h29.next) h30 (ψ ⟨h29.next,0,η⟩) 1 2 [(q:Int)]:=Sz.one g30 rfl U rfl rfl;obtain⟨A18,K18,h31,y1,y2,y3,y4⟩:=bq (gR _) (r:=cI) dR (o29.nw k30) hz U U;have z31:=y3.next;have b31:Bk h31 h8.next [ω ξ n5,Y A17 q K17,.nilFunc] 257:=y3.bk U (λho=>by have:=lo29 _ ho;omega) (k30.bk U b29);obtain⟨h32,s32,b32,z32,o32⟩:=ax (v:=Y A18 (q+1) K18) b31 (o:=1) (by simp) rfl;have lo18:∀z,ai A18 z->h28.next<=z:=λz hz=>(y4 z hz).elim (lo29 z) (λh=>U);refine⟨A18,q+1,K18,h31,y1,h32,s32,_,ae U U,i - (q+1),U,q+1,A18,K18,U,U,rfl,b32,?_,lo18,U,λz hz hne=>(o32 z hne).trans ((y3.get z U (λho=>by have:=lo29 _ ho;omega)).trans ((k30.get z U).trans (q29 z hz hne)))⟩;have:ints (List.range (q+1))=ints (List.range q) ++ [(q:Int)]:=by simp[ints,List.range_succ]
   rw[this];exact y2.keep (λz hz _=>o32 z (by have:=lo18 z hz;omega)) U
  .obtain rfl:q=i:=U;obtain⟨h33,s33,b33,z33,o33⟩:=ax (v:=.func (.func 204) #[] #[ν (ψ ⟨h5.next,0,η⟩)]) b29 (o:=2) (by simp) rfl;have f33:Bk h33 h1.next [ω ξ 0,Y η 0 0,.nilFunc] 257:=(o33 _ U).trans ((q29 _ U U).trans (nw28.bk U g2));obtain⟨h34,s34,b34,z34,o34⟩:=dh (vs:=[ω ξ n5,Y A17 q K17,.func (.func 204) #[] #[ν (ψ ⟨h5.next,0,η⟩)]]) f33 rfl (eR rfl rfl rfl);have same:∀z,z<h28.next->z≠h8.next->z≠h1.next->h34.get z=h28.get z:=λz hz h1 h2=>(o34 z h2).trans ((o33 z h1).trans (q29 z hz h1));refine⟨h33,s33,_,_,_,_,_,_,bo b33 (by simp),h34,s34,_,_,_,_,_,_,bo b34 (by simp),?_⟩;have hnw:Nw h h34:=⟨U,λz hz=>(same z U U U).trans ((nw28.get z U).trans ((k1.trans k2).get z hz))⟩;have hA17:Sa cI (λb=>h.next<=b) h34 A17 q K17 (ints (List.range q)):=((o29.keep (λz hz _=>(o34 z (by have:=lo29 z hz;omega)).trans (o33 z (by have:=lo29 z hz;omega))) U).sa).mono λz hz _=>by have:=lo29 z hz;omega
   have hsb:Bk h34 h5.next [Y A14 j K14] 351:=(same _ U U U).trans (k28.bk p5 B8.sbx);have hst:Sa (Rc.slice aS) D h34 A14 j K14 S:=B8.stp.sa.keep (λz hz hlt=>(same z U U (by have:=(B8.dlo z hz).1;omega)).trans (k28.get z hlt)) U;have hnx:kX h34 204 #[ν (ψ ⟨h5.next,0,η⟩)] j (cL S):=Ek U (aa hsb rfl) hst (λr hr=>by have:=hS r hr;omega);have hfl:=B8.fld;rw[hjL]at hnx hfl;have:=hK L S h5.next A17 K17 h34 hfl hnx hA17 hnw;rw[hLn]at this;exact this
end
end Eva
end
section
open Go Go.RowKit
def mj (costs:List Int) (first:Nat) (ls:List cm) (j:Nat):List cm:=(List.range j).filterMap (gO costs first ls)
theorem iE (costs:List Int) (first:Nat) (ls:List cm) (j:Nat):mj costs first ls (j+1)=mj costs first ls j ++ (gO costs first ls j).toList:=by
 unfold mj;rw[List.range_succ,List.filterMap_append];cases h:gO costs first ls j <;>simp[List.filterMap_cons,h]
theorem yX (costs:List Int) (first:Nat) (ls:List cm){j n:Nat}(h:j<=n):∃M,mj costs first ls n=mj costs first ls j ++ M:=by
 induction n with
 | zero=>obtain rfl:=Nat.le_zero.1 h;exact⟨[],by simp⟩
 | succ n ih=>
  rcases Nat.eq_or_lt_of_le h with rfl | h1
  .exact⟨[],by simp⟩
  .obtain⟨M,hM⟩:=ih U;exact⟨M ++ (gO costs first ls n).toList,by rw[iE,hM,List.append_assoc]⟩
theorem B5 {costs:List Int}{first:Nat}{ls:List cm}{j:Nat}{s:cm}(hj:j<ls.length) (h:gO costs first ls j=ψ s):(qJ costs first ls)[(mj costs first ls j).length]? = ψ s:=by
 obtain⟨M,hM⟩:=yX costs first ls (show j+1<=ls.length from hj)
 rw[iE,h]at hM;show(mj costs first ls ls.length)[_]? = _;rw[hM,List.append_assoc,List.getElem?_append_right (Nat.le_refl _),Nat.sub_self];rfl
theorem El {N:ab}{p:List (List Int)}{k c:Nat}{ks:List Nat}(hK:gk N p k c ks) (hok:N.Ok) (hp:aP N.nv p) (hk:2<=k) (hkl:k<=p.length){d m:Nat}(hd:d∈ks) (hm:m∈N.outs p (k - 1) d) (hn:m ∉ N.outs p k c):m∈N.LK p k ks ks.length:=by
 obtain⟨g1,g2,g3⟩:=ab.mem_outs.1 hm;obtain⟨v,v1,v2,v3⟩:=(hK.mem d).1 hd;have hf:=(ab.fr_lt hok g1).1;have e1:aG p k (N.fr m)=aG p k v:=gI hp (l:=k - 1) U U hkl hf v1 (g2.trans v3.symm);have e2:aG p k (N.to m)=c:=by
  by_cases e:aG p k (N.to m)=c
  .exact e
  .exact absurd (ab.mem_outs.2 ⟨g1,e1.trans v2,e⟩) hn
 exact(hK.in_kid hok hp hk hkl).2 ⟨g1,e2,rfl,by rw[g2];exact λh=>g3 h.symm⟩
namespace Eva
section
variable {h h0:AH}{Q:Value->AH->Prop}{F F1 F2 F3:Nat->Prop}{A1 A2 A3:Option Addr}{n n2 n3 K1 K2 K3:Nat}
theorem Em {spots:List (Int×Int)}{lists:List (List cm)}{costs:List Int}{sp lb cb:Nat}(hlt:sp<h0.next/\lb<h0.next/\cb<h0.next) (b1:ldC h0 sp 0=ψ (Y A1 n K1)) (s1:Sa jo F1 h0 A1 n K1 spots) (b2:ldC h0 lb 0=ψ (Y A2 n2 K2)) (s2:Sa (Rc.slice aS) F2 h0 A2 n2 K2 lists) (b3:ldC h0 cb 0=ψ (Y A3 n3 K3)) (s3:Sa cI F3 h0 A3 n3 K3 costs)
  (hn3:n3<=1000000) (hsp:∀x∈spots,∃i r,x.2=((i:Nat):Int)/\lists[i]? = ψ r/\r.length<=100000/\(r = []\/(0<=x.1/\x.1.toNat+r.length<=n3))) (hc:∀c∈costs,0<=c) (hl:∀r∈lists,∀s∈r,0<=s.2.2) :
  kX h0 207 #[ν (ψ ⟨sp,0,η⟩),ν (ψ ⟨lb,0,η⟩),ν (ψ ⟨cb,0,η⟩)] n (λq=>match spots[q]? with | some x=>qJ costs x.1.toNat ((lists[x.2.toNat]?).getD []) | none=>[]):=by
 refine⟨by kernel_rfl,λa ha h tg tfb J Q hJn hJs htg htell hJ0 hQ=>?_⟩;have nw0:=hJn 0 h hJ0;obtain⟨ba,oa,x,y,rfl,-,hba,hx,e0,e1⟩:=s1.pair (k:=a) ha;obtain⟨i,r,hi,hr,hrl,hrr⟩:=hsp (x,y) (List.mem_of_getElem? hx);simp only at hi hrr;subst hi;have hin2:i<n2:=by rw[<-s2.len];exact(List.getElem?_eq_some_iff.1 hr).1
 obtain⟨bb,ob,A4,n4,K4,r',rfl,-,hbb,hr',f0,s4⟩:=s2.row (k:=i) hin2;rw[hr]at hr';injection hr' with hr';subst hr';have hn4:r.length=n4:=s4.len;simp only[hx,Int.toNat_natCast,hr,Option.getD_some]at htell hQ;have hcl:=s3.len;refine pf ⟨sp,0,rfl,_,_,_,(nw0.ldC hlt.1 0).trans b1,a,rfl,_,_,rfl,ha,_,(nw0.ldC hba _).trans e0,lb,0,rfl,_,_,_,(nw0.ldC hlt.2.1 0).trans b2,_,_,_,(nw0.ldC hlt.1 0).trans b1,_,_,rfl,ha,_,(nw0.ldC hba _).trans e1,i,rfl,_,_,rfl,hin2,_,_,_,(nw0.ldC hbb _).trans f0,
  λm z h1=>∃j:Nat,z=j/\j<=n4/\m=n4 - j/\J (mj costs x.toNat r j).length h1,n4,⟨0,rfl,Nat.zero_le _,rfl,hJ0⟩,?_⟩
 rintro m z h1 ⟨j,rfl,hj,rfl,hJ1⟩;refine⟨λhlt'=>?_,λhge=>?_⟩
 .have hjn:j<n4:=U;have nw1:=hJn _ _ hJ1;obtain⟨bt,ot,x5,x6,x7,rfl,-,-,hx5,t0,t1,t2⟩:=(s4.nw nw1).tri (k:=j) hjn;have hx7:0<=x7:=hl r (List.mem_of_getElem? hr) _ (List.mem_of_getElem? hx5);have hx0:0<=x/\x.toNat+r.length<=n3:=hrr.resolve_left (λe=>by rw[e]at hx5;simp at hx5);obtain⟨f,rfl⟩:=Int.eq_ofNat_of_zero_le hx0.1;simp only[Int.toNat_natCast]at hx0 hJ1 htell hQ⊢;refine⟨j,rfl,_,_,rfl,hjn,_,_,_,wS t0 t1 t2,λh2 e2=>?_⟩;obtain⟨h3,q3,k3,g3,z3⟩:=aD (vs:=[ω ξ x5,ω ξ x6,ω ξ x7]) e2 rfl (eR rfl rfl rfl);have nw3:=nw1.trans k3;have w8:IntKind.i64.wrap ((f:Int)+(j:Int))=((f+j:Nat):Int):=by rw[Int.natCast_add];exact ae U U
  have w1:IntKind.i64.wrap ((j:Int)+1)=((j+1:Nat):Int):=by rw[Int.natCast_succ];exact ae U U
  obtain⟨b8,o8,x10,hA3,-,-,hx10,c0⟩:=(s3.nw nw3).int (k:=f+j) U;have h10:at_ costs (f+j)=x10:=by unfold at_;rw[hx10];rfl
  have hx10n:=hc _ (List.mem_of_getElem? hx10);have hsk:gO costs f r j=η->∃x19:Int,IntKind.i64.wrap ((j:Int)+1)=x19/\∃m':Nat,m' < n4 - j/\∃j':Nat,x19=j'/\j'<=n4/\m' = n4 - j'/\J (mj costs f r j').length h3:=λht=>by
   refine⟨_,w1,n4 - (j+1),U,j+1,rfl,U,rfl,?_⟩;rw[iE,ht];simpa using hJs _ _ _ hJ1 k3
  refine⟨h3,q3,_,w8,cb,0,rfl,_,_,_,(nw3.ldC hlt.2.2 0).trans b3,λh=>absurd h U,λ_=>⟨_,_,_,(nw3.ldC hlt.2.2 0).trans b3,_,w8,f+j,rfl,b8,o8,hA3,U,_,c0,λht=>⟨_,aa g3 rfl,λhs=>?_,λhs=>?_⟩,λht=>?_⟩⟩
  .have ht1:gO costs f r j=ψ (x5,x6,x7+x10):=by
    unfold gO;rw[hx5];simp only[h10];rw[if_pos ⟨ht,hs⟩]
   obtain⟨h4,q4,g4,z4,o4⟩:=ax (v:=ω ξ (x7+x10)) g3 (o:=2) (by simp) rfl;have k4:Nw h1 h4:=⟨by have:=k3.next;omega,λb hb=>(o4 b U).trans (k3.get b hb)⟩;refine⟨_,aa g3 rfl,_,ae U U,h4,q4,_,_,_,bo g4 (by simp),htg,?_⟩;refine htell _ (x5,x6,x7+x10) h4 _ (hJs _ _ _ hJ1 k4) (B5 U ht1) λh5 hJ5=>⟨rfl,_,w1,n4 - (j+1),U,j+1,rfl,U,rfl,?_⟩;rw[iE,ht1];simpa using hJ5
  .exact hsk (by unfold gO;rw[hx5];simp only[h10];rw[if_neg (λh=>hs h.2)])
  .exact hsk (by unfold gO;rw[hx5];simp only[h10];rw[if_neg (λh=>ht h.1)])
 .obtain rfl:j=r.length:=U;exact hQ h1 hJ1
theorem Le {o:Nat}{N:ab}{p:List (List Int)}(O:fE h F o N p){k d j:Nat}(hk:2<=k) (hkl:k<=p.length) (hd:d<au p (k - 1)) (hj:j<(N.ins p (k - 1) d).length)
  (hK:∀h',Nw h h'->Q (ω ξ (N.firstK p k d j)) h'):WC Tryz.prog 59 [ν (ψ ⟨o,0,η⟩),ω ξ ((k - 1:Nat):Int),ω ξ d,ω ξ j,ω ξ 0] h Q:=by
 unfold ab.firstK at hK;rcases Nat.eq_zero_or_pos (N.outs p (k - 1) d).length with h0 | h0
 .have he:N.outs p (k - 1) d = []:=List.eq_nil_of_length_eq_zero h0;rw[if_pos he]at hK;obtain⟨k',rfl⟩:∃k',k=k' + 2:=⟨k - 2,U⟩;have e1:k' + 2 - 1=k' + 1:=rfl;rw[e1]at hd hj h0⊢;have hp6:=O.hp.few;obtain⟨b1,o1,n1,K1,b2,o2,K2,A3,K3,A4,K4,c3,hkn,l1,e2,l2,e3,e4,s3,s4⟩:=O.gate_ (k:=k') U hd;rw[h0]at e4;refine cC (BT O U U hd ⟨_,rfl,λ_=>?_,λh=>Bool.noConfusion h⟩);refine⟨_,_,rfl,_,_,_,c3,_,ae U U,k',U,_,_,rfl,hkn,_,_,_,e2,d,rfl,_,_,rfl,hd,_,_,_,_,_,_,kT e3 e4,λh2 e7=>?_⟩;obtain⟨h3,hs3,k3,g3,z3⟩:=aD (vs:=[Y A3 (N.ins p (k' + 1) d).length K3,Y A4 0 K4]) e7 rfl (cR rfl rfl);exact⟨h3,hs3,λh=>absurd h U,λ_=>⟨_,_,_,aa g3 rfl,λh=>absurd h U,λ_=>⟨λh=>absurd h U,λ_=>⟨_,_,_,aa g3 rfl,λ_=>hK _ k3,λh=>absurd (Int.le_refl _) h⟩⟩⟩⟩
 .rw[if_neg (λe=>by rw[e]at h0;simp at h0)]at hK;refine KW O (j:=0) U U hd hj h0 λh' k'=>?_;have:=hK h' k'
  rwa [Nat.add_zero]
end
end Eva
end
section
open Go Go.RowKit
namespace Eva
theorem LM:tf Tryz.prog 253 2 48=true:=by kernel_rfl
theorem Lf:tf Tryz.prog 358 2 16=true:=by kernel_rfl
def iF (N:ab) (p:List (List Int)) (k:Nat) (ks:List Nat) (i:Nat):List (List Int×List Int):=(List.range i).map λj=>(ints (N.ins p (k - 1) ((ks[j]?).getD 0)),ints (N.outs p (k - 1) ((ks[j]?).getD 0)))
theorem xc (N:ab) (p:List (List Int)) (k:Nat) (ks:List Nat) (i:Nat):iF N p k ks (i+1)=iF N p k ks i ++ [(ints (N.ins p (k - 1) ((ks[i]?).getD 0)),ints (N.outs p (k - 1) ((ks[i]?).getD 0)))]:=by
 unfold iF;rw[List.range_succ,List.map_append];rfl
structure KB (h0:AH) (lo pm sb:Nat) (D:Nat->Prop) (A5:Option Addr) (i K5:Nat) (gs:List (List Int×List Int)) (h:AH) (L:List Nat) (sp:List (Int×Int)):Prop where
 nw:Nw h0 h
 gates:ay Rc.gate h D 253 A5 i K5 gs
 map_:cX kN h pm (xS L)
 spt:∃A12 K12,Bk h sb [Y A12 L.length K12] 356/\ay jo h (ai A12) 358 A12 L.length K12 sp/\(∀b,ai A12 b->lo<=b/\b≠pm/\b≠sb/\¬D b)
 dlo:∀b,D b->lo<=b/\b<h.next/\b≠pm/\b≠sb
 pos:h0.next<=pm/\h0.next<=sb/\pm≠sb/\pm<h.next/\sb<h.next
 hlo:h0.next<=lo/\lo<=h.next
section
variable {h h' h0:AH}{Q:Value->AH->Prop}{N:ab}{p:List (List Int)}{lo pm sb:Nat}{D:Nat->Prop}{A5:Option Addr}{i K5:Nat}{gs:List (List Int×List Int)}{L:List Nat}{sp:List (Int×Int)}{a:Nat}
theorem KB.next (B:KB h0 lo pm sb D A5 i K5 gs h L sp) (a:Nw h h'):KB h0 lo pm sb D A5 i K5 gs h' L sp:=by
 obtain⟨A12,K12,s1,s2,s3⟩:=B.spt;obtain⟨p1,p2,p3,p4,p5⟩:=B.pos;have z:=a.next;exact⟨B.nw.trans a,B.gates.nw a,B.map_.keep (a.get _ p4),⟨A12,K12,a.bk p5 s1,s2.nw a,s3⟩,λb hb=>by have:=B.dlo b hb;omega,U,by have:=B.hlo;omega⟩
theorem KB.push (B:KB h0 lo pm sb D A5 i K5 gs h L sp) (hn:a ∉ L) (hL:L.length<=2000):∃A12 K12,ldC h sb 0=ψ (Y A12 L.length K12)/\bO (Y A12 L.length K12)/\
  ∃h14,ej Tryz.prog h (ψ (.map 3 3)) (.map (ψ pm)) (ω ξ (a:Int)) (ω ξ (L.length:Int))=ψ (undef,h14)/\ldC h14 sb 0=ψ (Y A12 L.length K12)/\h14.next=h.next/\(∀b,b≠pm->h14.get b=h.get b)/\
   ∀h15 x y,Nw h14 h15->ldC h15 sb 0=ψ (Y A12 L.length K12)/\∀h16,h16=AH.new h15 (.cells [ω ξ x,ω ξ y] 358 false)->
    ∃A14 K14 h17,ah Tryz.prog h16 (ψ (.slice 358)) (ψ (.slice 358)) (Y A12 L.length K12) (Y (ψ ⟨h15.next,0,η⟩) 1 2)=ψ (Y A14 (L.length+1) K14,h17)/\
     ∃h18,j0 h17 sb 0 [Y A14 (L.length+1) K14]=ψ h18/\KB h0 lo pm sb D A5 i K5 gs h18 (L ++ [a]) (sp ++ [(x,y)])/\h.next<=h18.next/\(∀b,b<h.next->b≠pm->b≠sb->(b<lo\/D b)->h18.get b=h.get b):=by
 obtain⟨A12,K12,s1,s2,s3⟩:=B.spt;obtain⟨p1,p2,p3,p4,p5⟩:=B.pos;obtain⟨q1',q2'⟩:=B.hlo;obtain⟨h14,x1,x2,x3,x4⟩:=yW B.map_ hn;have sb14:Bk h14 sb [Y A12 L.length K12] 356:=(x4 _ (Ne.symm p3)).trans s1;refine⟨A12,K12,aa s1 rfl,s2.spot,h14,x1,aa sb14 rfl,x3,x4,λh15 x y k15=>⟨aa (k15.bk U sb14) rfl,λh16 e16=>?_⟩⟩;obtain⟨k16,g16,z16⟩:=aj e16;have z15:=k15.next;have o14:ay jo h14 (ai A12) 358 A12 L.length K12 sp:=s2.keep (λb hb _=>x4 b (s3 b hb).2.1) U;have hz:Sz jo (λz=>z=h15.next) h16 (ψ ⟨h15.next,0,η⟩) 1 2 [(x,y)]:=Sz.one g16 rfl U rfl rfl;obtain⟨A14,K14,h17,y1,y2,y3,y4⟩:=bq (tj _ _) (r:=jo) Lf (o14.nw (k15.trans k16)) hz U U;have z17:=y3.next;have sb17:Bk h17 sb [Y A12 L.length K12] 356:=y3.bk U (λho=>(s3 _ ho).2.2.1 rfl) ((k15.trans k16).bk U sb14);obtain⟨h18,q1,q2,q3,q4⟩:=ax (v:=Y A14 (L.length+1) K14) sb17 (o:=0) (by simp) rfl;have same:∀b,b<h.next->b≠pm->b≠sb->¬ai A12 b->h18.get b=h.get b:=λb hb h1 h2 h3=>(q4 b h2).trans ((y3.get b U h3).trans (((k15.trans k16).get b U).trans (x4 b h1)));have nA:∀{b},D b->¬ai A12 b:=λhd ha=>(s3 _ ha).2.2.2 hd;have lo14:∀b,ai A14 b->lo<=b/\b≠pm/\b≠sb/\¬D b:=λb hb=>by
  rcases y4 b hb with h1 | h1
  .exact s3 b h1
  .exact⟨U,U,U,λhd=>by have:=(B.dlo b hd).2.1;omega⟩
 refine⟨A14,K14,h17,y1,h18,q1,⟨⟨by have:=B.nw.next;omega,λb hb=>(same b (by have:=B.nw.next;omega) U U (λho=>by have:=(s3 b ho).1;omega)).trans (B.nw.get b hb)⟩,?_,?_,⟨A14,K14,?_,?_,lo14⟩,λb hb=>by have:=B.dlo b hb;omega,U,U⟩,U,λb hb h1 h2 hd=>same b hb h1 h2 (hd.elim (λhlt ho=>by have:=(s3 _ ho).1;omega) nA)⟩
 .exact B.gates.keep (λb hb hlt=>same b hlt (B.dlo b hb).2.2.1 (B.dlo b hb).2.2.2 (nA hb)) U
 .exact x2.keep ((q4 _ p3).trans ((y3.get _ U (λho=>(s3 _ ho).2.1 rfl)).trans ((k15.trans k16).get _ U)))
 .rw[List.length_append];exact q2
 .rw[List.length_append];exact y2.keep (λb hb _=>q4 b (lo14 b hb).2.2.1) U
end
end Eva
end
section
open Go Go.RowKit
namespace Eva
def F9:Value:=Y η 0 0
structure KC (h0:AH) (LB lb n i:Nat) (kl:Nat->List cm) (h:AH) (vals:List Value) (D:Nat->Prop) (A:Option Addr) (m K:Nat) (cur:List cm):Prop where
 nw:Nw h0 h
 blk:Bk h LB (vals ++ Y A m K :: List.replicate (n - (i+1)) F9) 352
 lbx:Bk h lb [Y (ψ ⟨LB,0,η⟩) n (cx n)] 351
 vl:vals.length=i/\i<n
 old:∀j v,vals[j]? = ψ v->∃A n K,v = Y A n K/\Sa aS D h A n K (kl j)
 own:ay aS h (ai A) 354 A m K cur
 dlo:∀b,D b->h0.next<=b/\b<h.next/\b≠LB/\b≠lb/\¬ai A b
 alo:∀b,ai A b->h0.next<=b/\b≠LB/\b≠lb
 pos:h0.next<=LB/\h0.next<=lb/\LB≠lb/\LB<h.next/\lb<h.next
section
variable {h h' h0:AH}{LB lb n i m K:Nat}{kl:Nat->List cm}{vals:List Value}{D:Nat->Prop}{A:Option Addr}{cur:List cm}
theorem KC.next (C:KC h0 LB lb n i kl h vals D A m K cur) (a:Nw h h'):KC h0 LB lb n i kl h' vals D A m K cur:=by
 obtain⟨p1,p2,p3,p4,p5⟩:=C.pos;have z:=a.next;refine⟨C.nw.trans a,a.bk p4 C.blk,a.bk p5 C.lbx,C.vl,λj v hj=>?_,C.own.nw a,λb hb=>by have:=C.dlo b hb;exact⟨this.1,U,this.2.2⟩,C.alo,U⟩;obtain⟨A',n',K',h1,h2⟩:=C.old j v hj;exact⟨A',n',K',h1,h2.nw a⟩
theorem KC.cell (C:KC h0 LB lb n i kl h vals D A m K cur):ldC h LB (0+i)=ψ (Y A m K):=by
 rw[aJ C.blk,Nat.zero_add,List.getElem?_append_right (by rw[C.vl.1];exact Nat.le_refl _),C.vl.1,Nat.sub_self];rfl
theorem KC.push (C:KC h0 LB lb n i kl h vals D A m K cur) (hm:m<=2000) (s:cm):∀h32,h32=AH.new h (.cells [ω ξ s.1,ω ξ s.2.1,ω ξ s.2.2] 354 false)->
  ∃A' K' h33,ah Tryz.prog h32 (ψ (.slice 354)) (ψ (.slice 354)) (Y A m K) (Y (ψ ⟨h.next,0,η⟩) 1 2)=ψ (Y A' (m+1) K',h33)/\ldC h33 lb 0=ψ (Y (ψ ⟨LB,0,η⟩) n (cx n))/\
   ∃h34,j0 h33 LB (0+i) [Y A' (m+1) K']=ψ h34/\KC h0 LB lb n i kl h34 vals D A' (m+1) K' (cur ++ [s]):=by
 intro h32 e32;obtain⟨p1,p2,p3,p4,p5⟩:=C.pos;obtain⟨A',K',h33,y1,y2,y3,y4,y5⟩:=pC C.own hm s e32;have nLB:¬ai A LB:=λho=>(C.alo _ ho).2.1 rfl;have nlb:¬ai A lb:=λho=>(C.alo _ ho).2.2 rfl;have b33:=y3.bk p4 nLB C.blk;have l33:=y3.bk p5 nlb C.lbx;obtain⟨h34,q1,q2,q3,q4⟩:=ax (v:=Y A' (m+1) K') b33 (o:=0+i) (by simp;have:=C.vl;omega) rfl;have lo':∀b,ai A' b->h0.next<=b/\b≠LB/\b≠lb:=λb hb=>(y5 b hb).elim (C.alo b) (λh1=>by have:=C.nw.next;omega);have same:∀b,b<h.next->¬ai A b->b≠LB->h34.get b=h.get b:=λb hb h1 h2=>(q4 b h2).trans (y3.get b hb h1);refine⟨A',K',h33,y1,aa l33 rfl,h34,q1,⟨⟨by have:=C.nw.next;omega,λb hb=>(same b (by have:=C.nw.next;omega) (λho=>by have:=(C.alo b ho).1;omega) U).trans (C.nw.get b hb)⟩,?_,(q4 _ (Ne.symm p3)).trans l33,C.vl,λj v hj=>?_,y2.keep (λb hb _=>q4 b (lo' b hb).2.1) U,λb hb=>?_,lo',U⟩⟩
 .have e:(vals ++ Y A m K :: List.replicate (n - (i+1)) F9).set (0+i) (Y A' (m+1) K')=vals ++ Y A' (m+1) K' :: List.replicate (n - (i+1)) F9:=by
   rw[Nat.zero_add,List.set_append_right _ _ (by rw[C.vl.1];exact Nat.le_refl _),C.vl.1,Nat.sub_self];rfl
  rwa [e]at q2
 .obtain⟨A1,n1,K1,h1,h2⟩:=C.old j v hj;exact⟨A1,n1,K1,h1,h2.keep (λb hb hlt=>same b hlt (C.dlo b hb).2.2.2.2 (C.dlo b hb).2.2.1) U⟩
 .obtain⟨d1,d2,d3,d4,d5⟩:=C.dlo b hb;exact⟨d1,U,d3,d4,λho=>(y5 b ho).elim d5 (λh=>U)⟩
end
section
variable {h:AH}{Q:Value->AH->Prop}{Fa F Fo F1 F2 F3:Nat->Prop}{g o:Nat}{N:ab}{p:List (List Int)}{k c:Nat}{A1 A2 A3:Option Addr}{n1 n2 n3 K1 K2 K3:Nat}{costs:List Int}
theorem Ga (G:gS h Fa F g N) (O:fE h Fo o N p) (hk:2<=k) (hkl:k<=p.length) (hc:c<au p k) (s1:Sa cI F1 h A1 n1 K1 (ints (N.ins p k c))) (s2:Sa cI F2 h A2 n2 K2 (ints (N.outs p k c))) (s3:Sa cI F3 h A3 n3 K3 costs) (hlen:costs.length=N.size p) (hsz:N.size p<=1000000) (hcb:∀x∈costs,0<=x)
  (hK:∀(ks:List Nat) (A':Option Addr) (K':Nat) (fb:Array Value) (h':AH),gk N p k c ks->kX h' 207 fb (N.LK p k ks ks.length).length (N.kSteps p k c ks costs)->Sa cI (λb=>h.next<=b) h' A' n1 K' (ints ((N.ins p k c).map λa=>(N.LK p k ks ks.length).idxOf a))->Nw h h'->
   Q (.agg #[ω ξ ((N.LK p k ks ks.length).length:Int),Y A' n1 K',.func (.func 207) #[] fb]) h') :
  WC Tryz.prog 132 [ν (ψ ⟨g,0,η⟩),ν (ψ ⟨o,0,η⟩),ω ξ k,ω ξ c,.agg #[Y A1 n1 K1,Y A2 n2 K2],Y A3 n3 K3] h Q:=by
 have hna:=G.few.2;have hl1:(N.ins p k c).length=n1:=by simpa[ints]using s1.len
 have hl2:(N.outs p k c).length=n2:=by simpa[ints]using s2.len
 have hn1:n1<=1000:=by rw[<-hl1];exact Nat.le_trans (aL _ _) hna
 have hn2:n2<=1000:=by rw[<-hl2];exact Nat.le_trans (aL _ _) hna
 have hp6:=O.hp.few;have hnv:=O.hp.nv_;have wk:IntKind.i64.wrap ((k:Int) - 1)=((k - 1:Nat):Int):=by rw[Int.natCast_sub U];exact ae U U
 refine rM λh1 e1 h2 e2 h3 e3 h4 e4 h5 e5=>?_;obtain⟨k1,g1,z1⟩:=aj e1;obtain⟨k2,g2,z2⟩:=aj e2;obtain⟨k3,g3,z3⟩:=aj e3;obtain⟨k4,g4,z4⟩:=aj e4;obtain⟨k5,g5,z5⟩:=aj e5;have k03:=(k1.trans k2).trans k3;have k35:=k4.trans k5;have G3:=G.nw k03;have O3:=O.nw k03;have cb3:Bk h3 h.next [Y A1 n1 K1,Y A2 n2 K2] 253:=(k2.trans k3).bk U g1;have xb3:Bk h3 h1.next [Y A3 n3 K3] 43:=k3.bk U g2;have s13:=s1.nw k03;have s23:=s2.nw k03;have s33:=s3.nw k03;refine Jk (O3.nw k35) hk hkl hc λA4 n4 K4 ks h6 s6 hKs k6=>⟨_,_,_,rfl,?_⟩;have hn4:ks.length=n4:=by simpa[ints]using s6.len
 subst hn4;have hksn:ks.length<=N.nv:=by
  have h1:=jJ (l:=ks) (N:=au p (k - 1)) (List.Pairwise.imp (λh=>Nat.ne_of_lt h) hKs.asc) (λd hd=>hKs.lt O.hp hk hkl hd);refine Nat.le_trans h1 ?_;obtain⟨row,hr⟩:∃row,p[k - 1 - 1]? = ψ row:=⟨_,List.getElem?_eq_getElem U⟩;have h2:=gU hr;have h3:=dq (row:=row) (n:=(N.nv:Int)) U (λx hx=>(O.hp.inr _ (List.mem_of_getElem? hr) x hx).2);omega
 have hnv1:=G.few.1;have z6:=k6.next;have LKl:∀{i},i<=ks.length->(N.LK p k ks i).length<=1000:=λhi=>Nat.le_trans (DV hKs.asc hi) hna;refine⟨λm A5 n5 K5 x h7=>∃(i:Nat) (D:Nat->Prop),x=i/\n5=i/\i<=ks.length/\m=ks.length - i/\KB h3 h6.next h3.next h4.next D A5 i K5 (iF N p k ks i) h7 (N.LK p k ks i) (N.spK p k ks i)/\Sa cI (λb=>h5.next<=b/\b<h6.next) h7 A4 ks.length K4 (ints ks),ks.length,⟨0,λ_=>False,rfl,rfl,Nat.zero_le _,rfl,⟨k35.trans k6,ay.nil _ _ _ _,?_,⟨η,0,(k6.bk U g5),ay.nil _ _ _ _,λb hb=>hb.elim⟩,λb hb=>hb.elim,U,U⟩,s6.mono λb hb hlt=>⟨hb,hlt⟩⟩,?_⟩
 .have e0:xS (N.LK p k ks 0)=λ_=>none:=by funext x;simp[xS,ab.LK]
  rw[e0];exact(cX.new g4).keep ((k5.trans k6).get _ U)
 rintro m A5 n5 K5 x h7 ⟨i,D,rfl,rfl,hi,rfl,B7,sK⟩;refine⟨λhlt=>?_,λhge=>?_⟩
 .have hik:n5<ks.length:=U;obtain⟨d,hd⟩:∃d,ks[n5]? = ψ d:=⟨_,List.getElem?_eq_getElem hik⟩;have hdD:(ks[n5]?).getD 0=d:=by rw[hd];rfl
  have hdm:=List.mem_of_getElem? hd;have hdl:=hKs.lt O.hp hk hkl hdm;obtain⟨b1,o1,x4,hA4,-,-,hx4,q4⟩:=sK.int (k:=n5) hik;have hxd:x4=(d:Int):=by simp[ints,hd]at hx4;exact hx4.symm
  subst hxd;refine⟨n5,rfl,b1,o1,hA4,hik,_,q4,_,wk,D4 (O3.nw B7.nw) U U hdl λA6 K6 A7 K7 h8 sA sB k8=>⟨_,_,_,_,_,_,rfl,λh9 e9=>?_⟩⟩;obtain⟨ni,hni⟩:∃ni,(N.ins p (k - 1) d).length=ni:=⟨_,rfl⟩;obtain⟨no,hno⟩:∃no,(N.outs p (k - 1) d).length=no:=⟨_,rfl⟩;rw[hni]at sA⊢;rw[hno]at sB⊢;have hni2:ni<=1000:=by rw[<-hni];exact Nat.le_trans (aL _ _) hna
  obtain⟨h10,s10,k10,g10,z10⟩:=aD (vs:=[Y A6 ni K6,Y A7 no K7]) e9 rfl (cR rfl rfl);refine⟨h10,s10,_,_,_,_,_,_,bo g10 (by simp),λh11 e11=>?_⟩;obtain⟨k11,g11,z11⟩:=aj e11;have z8:=k8.next;have B11:=B7.next ((k8.trans k10).trans k11);have hownD:∀b,ai A5 b->D b:=λb hb=>(B7.gates.lt hb).1;have sA11:=((sA.nw k10).nw k11);have sB11:=((sB.nw k10).nw k11);have sAF:Sa cI (λb=>h7.next<=b/\b<h11.next) h11 A6 ni K6 (ints (N.ins p (k - 1) d)):=sA11.mono λb hb hlt=>⟨hb,hlt⟩;have sBF:Sa cI (λb=>h7.next<=b/\b<h11.next) h11 A7 no K7 (ints (N.outs p (k - 1) d)):=sB11.mono λb hb hlt=>⟨hb,hlt⟩;have hz:Sz Rc.gate (λb=>h7.next<=b/\b<h11.next) h11 (ψ ⟨h10.next,0,η⟩) 1 2 [(ints (N.ins p (k - 1) d),ints (N.outs p (k - 1) d))]:=
   Sz.one g11 ⟨U,U⟩ U rfl ⟨A6,ni,K6,A7,no,K7,rfl,sAF,sBF⟩
  obtain⟨A10,K10,h12,y1,y2,y3,y4⟩:=gQ (r:=Rc.gate) (bytes:=48) LM B11.gates hz (λb hb ho=>by have:=(B7.dlo b (hownD b ho)).2.1;omega) U U;have z12:=y3.next;have nO:∀{b},h7.next<=b->¬ai A5 b:=λhb ho=>by have:=(B7.dlo _ (hownD _ ho)).2.1;omega
  refine⟨A10,n5+1,K10,h12,y1,_,_,_,aa (y3.bk U (nO U) (k11.bk U g10)) rfl,?_⟩;obtain⟨A12,K12,t1,t2,t3⟩:=B11.spt;obtain⟨p1,p2,p3,p4,p5⟩:=B11.pos;have B12:KB h3 h6.next h3.next h4.next (λb=>(D b\/(h7.next<=b/\b<h11.next)\/b=h11.next)/\b<h12.next) A10 (n5+1) K10 (iF N p k ks (n5+1)) h12 (N.LK p k ks n5) (N.spK p k ks n5):=by
   have lo7:=B7.hlo;refine⟨⟨by have:=B11.nw.next;omega,λb hb=>(y3.get b (by have:=B11.nw.next;omega) (λho=>by have:=(B7.dlo b (hownD b ho)).1;omega)).trans (B11.nw.get b hb)⟩,?_,B11.map_.keep (y3.get _ p4 (λho=>(B7.dlo _ (hownD _ ho)).2.2.1 rfl)),⟨A12,K12,y3.bk p5 (λho=>(B7.dlo _ (hownD _ ho)).2.2.2 rfl) t1,t2.keep (λb hb hlt=>y3.get b hlt (λho=>(t3 b hb).2.2.2 (hownD b ho))) U,λb hb=>?_⟩,λb hb=>?_,U,U⟩
   .rw[xc,hdD];exact y2.mono λb hb hlt=>⟨hb,hlt⟩
   .have hb7:b<h7.next:=by
     obtain⟨A12',K12',t1',t2',t3'⟩:=B7.spt;have:ldC h11 h4.next 0=ψ (Y A12' (N.LK p k ks n5).length K12'):=aa (((k8.trans k10).trans k11).bk (by have:=B7.pos;omega) t1') rfl;rw[aa t1 rfl]at this;injection this with this;injection this with e1 e2 e3;subst e1;exact t2'.own hb
    refine⟨(t3 b hb).1,(t3 b hb).2.1,(t3 b hb).2.2.1,λhd=>?_⟩;rcases hd.1 with h9 | h9 | h9
    .exact(t3 b hb).2.2.2 h9
    .omega
    .omega
   .have hpos:=B7.pos;rcases hb.1 with h9 | h9 | h9
    .have:=B7.dlo b h9;omega
    .omega
    .omega
  have sA12:Sa cI (λb=>h7.next<=b/\b<h11.next) h12 A6 ni K6 (ints (N.ins p (k - 1) d)):=sAF.off y3 λb hb=>nO hb.1;have sK12:Sa cI (λb=>h5.next<=b/\b<h6.next) h12 A4 ks.length K4 (ints ks):=((sK.nw (k8.trans k10)).nw k11).off y3 λb hb ho=>by have:=(B7.dlo b (hownD b ho)).1;omega
  have hLn5:=LKl hi;refine⟨λm x h13=>∃j:Nat,x=j/\j<=ni/\m=ni - j/\KB h3 h6.next h3.next h4.next (λb=>(D b\/(h7.next<=b/\b<h11.next)\/b=h11.next)/\b<h12.next) A10 (n5+1) K10 (iF N p k ks (n5+1)) h13 (N.LK p k ks n5 ++ (N.ins p (k - 1) d).take j) (N.spK p k ks n5 ++ (List.range j).map λj=>(N.firstK p k d j,(n5:Int)))/\Sa cI (λb=>h7.next<=b/\b<h11.next) h13 A6 ni K6 (ints (N.ins p (k - 1) d))/\Sa cI (λb=>h5.next<=b/\b<h6.next) h13 A4 ks.length K4 (ints ks),ni,⟨0,rfl,Nat.zero_le _,rfl,by simpa using B12,sA12,sK12⟩,?_⟩;rintro m x h13 ⟨j,rfl,hj,rfl,B13,sA13,sK13⟩;refine⟨λhlt=>?_,λhge=>?_⟩
  .have hjn:j<ni:=U;obtain⟨b2,o2,x7,hA6,-,-,hx7,r0⟩:=sA13.int (k:=j) hjn;obtain⟨a,ha⟩:∃a,(N.ins p (k - 1) d)[j]? = ψ a:=⟨_,List.getElem?_eq_getElem U⟩;have hxa:x7=(a:Int):=by simp[ints,ha]at hx7;exact hx7.symm
   subst hxa;have hfr:a ∉ N.LK p k ks n5 ++ (N.ins p (k - 1) d).take j:=by
    have:=DU (N:=N) (p:=p) (k:=k) (ks:=ks) hKs.asc (n:=n5) (j:=j) (a:=a) hik (by rw[hdD];exact ha)
    rwa [hdD]at this
   have hLl:(N.LK p k ks n5 ++ (N.ins p (k - 1) d).take j).length<=2000:=by rw[List.length_append,List.length_take];omega
   obtain⟨A12',K12',u1,u2,h14,u3,u4,u5,u6,u7⟩:=B13.push hfr hLl;obtain⟨P1,P2,P3,P4,P5⟩:=B13.pos;have nw14:Nw h3 h14:=⟨by have:=B13.nw.next;omega,λb hb=>(u6 b U).trans (B13.nw.get b hb)⟩;have w1:IntKind.i64.wrap ((j:Int)+1)=((j+1:Nat):Int):=by rw[Int.natCast_succ];exact ae U U
   refine⟨j,rfl,b2,o2,hA6,hjn,_,r0,_,_,_,u1,h14,u3,_,_,_,u4,_,wk,Le (O3.nw nw14) hk hkl hdl U λh15 k15=>⟨_,rfl,?_⟩⟩;obtain⟨v1,v2⟩:=u7 h15 (N.firstK p k d j) (n5:Int) k15;refine⟨v1,u2,λh16 e16=>?_⟩;obtain⟨A14,K14,h17,w2,h18,w3,B18,w4,w5⟩:=v2 h16 e16;refine⟨A14,_,K14,h17,w2,h18,w3,_,w1,ni - (j+1),U,j+1,U,U,rfl,?_,sA13.keep (λb hb hlt=>w5 b hlt (by have:=B7.pos;omega) (by have:=B7.pos;omega) (.inr ⟨.inr (.inl hb),U⟩)) w4,sK13.keep (λb hb hlt=>w5 b hlt U U (.inl U)) w4⟩;have e1:N.LK p k ks n5 ++ (N.ins p (k - 1) d).take (j+1)=N.LK p k ks n5 ++ (N.ins p (k - 1) d).take j ++ [a]:=by rw[List.take_add_one,ha,List.append_assoc];rfl
   have e2:(N.spK p k ks n5 ++ (List.range (j+1)).map λj=>(N.firstK p k d j,(n5:Int)))=(N.spK p k ks n5 ++ (List.range j).map λj=>(N.firstK p k d j,(n5:Int))) ++ [(N.firstK p k d j,(n5:Int))]:=by rw[List.range_succ,List.map_append,List.append_assoc];rfl
   rw[e1,e2];exact B18
  .obtain rfl:j=ni:=U;have w1:IntKind.i64.wrap ((n5:Int)+1)=((n5+1:Nat):Int):=by rw[Int.natCast_succ];exact ae U U
   refine⟨_,w1,ks.length - (n5+1),U,n5+1,λb=>(D b\/(h7.next<=b/\b<h11.next)\/b=h11.next)/\b<h12.next,rfl,rfl,U,rfl,?_,sK13⟩;rw[List.take_of_length_le U]at B13;have e1:N.LK p k ks (n5+1)=N.LK p k ks n5 ++ N.ins p (k - 1) d:=by rw[ab.LK,hdD]
   have e2:N.spK p k ks (n5+1)=N.spK p k ks n5 ++ (List.range j).map λj=>(N.firstK p k d j,(n5:Int)):=by rw[ab.spK,hdD,hni]
   rw[e1,e2];exact B13
 .obtain rfl:n5=ks.length:=U;obtain⟨L,hL⟩:∃L,N.LK p k ks ks.length=L:=⟨_,rfl⟩;have hLl:L.length<=1000:=by rw[<-hL];exact LKl (Nat.le_refl _)
  obtain⟨P1,P2,P3,P4,P5⟩:=B7.pos;have cb7:=B7.nw.bk U cb3;have G7:=G3.nw B7.nw;have s27:=s23.nw B7.nw;have m7:=B7.map_;rw[hL]at m7;have sG7:Sa Rc.gate D h7 A5 ks.length K5 (iF N p k ks ks.length):=B7.gates.sa;refine⟨U,λh19 e19 h20 e20=>?_⟩;obtain⟨k19,g19,z19⟩:=aj e19;rw[aQ]at g19;obtain⟨h21,s21,k21,g21,z21⟩:=aD (vs:=[Y (ψ ⟨h7.next,0,η⟩) ks.length (cx ks.length)]) e20 rfl (by simp[flat]);refine⟨h21,s21,λm x h22=>∃(i:Nat) (vals:List Value) (D2:Nat->Prop),x=i/\i<=ks.length/\m=ks.length - i/\Nw h7 h22/\Bk h22 h7.next (vals ++ List.replicate (ks.length - i) F9) 352/\Bk h22 h19.next [Y (ψ ⟨h7.next,0,η⟩) ks.length (cx ks.length)] 351/\vals.length=i/\(∀j v,vals[j]? = ψ v->∃A n K,v = Y A n K/\Sa aS D2 h22 A n K (N.kList p k c ks j))/\(∀b,D2 b->h7.next<=b/\b<h22.next/\b≠h7.next/\b≠h19.next)/\h19.next<h22.next,ks.length,⟨0,[],λ_=>False,rfl,Nat.zero_le _,rfl,k19.trans k21,k21.bk U g19,g21,rfl,by simp,λb hb=>hb.elim,U⟩,?_⟩;rintro m x h22 ⟨i,vals,D2,rfl,hi,rfl,k22,b22,l22,hvl,hold,hD2,hl22⟩;refine⟨λhlt=>?_,λhge=>?_⟩
  .have hik:i<ks.length:=U;obtain⟨d,hd⟩:∃d,ks[i]? = ψ d:=⟨_,List.getElem?_eq_getElem hik⟩;have hdD:(ks[i]?).getD 0=d:=by rw[hd];rfl
   have hdm:=List.mem_of_getElem? hd;have hkl1:N.kList p k c ks i=(N.outs p (k - 1) d).map (N.kStep p k c L):=by unfold ab.kList;rw[hdD,hL]
   obtain⟨b3,o3,A15,n15,K15,A16,n16,K16,gx,gy,hA5,-,-,hgx,q1,q2,s15,s16⟩:=(sG7.nw k22).gate (k:=i) hik;have hgy:gx=ints (N.ins p (k - 1) d)/\gy=ints (N.outs p (k - 1) d):=by
    unfold iF at hgx;rw[List.getElem?_map,List.getElem?_range hik]at hgx;simp only[Option.map_some,hdD]at hgx;injection hgx with hgx;injection hgx with h1 h2;exact⟨h1.symm,h2.symm⟩
   obtain⟨rfl,rfl⟩:=hgy;have hn16:(N.outs p (k - 1) d).length=n16:=by simpa[ints]using s16.len
   have hn16b:n16<=1000:=by rw[<-hn16];exact Nat.le_trans (aL _ _) hna
   refine⟨i,rfl,b3,o3,hA5,hik,_,_,_,_,_,_,kT q1 q2,λh23 e23=>?_⟩;obtain⟨h24,s24,k24,g24,z24⟩:=aD (vs:=[Y A15 n15 K15,Y A16 n16 K16]) e23 rfl (cR rfl rfl);have hz22:=k22.next;have C24:KC h7 h7.next h19.next ks.length i (N.kList p k c ks) h24 vals D2 η 0 0 []:=by
    refine⟨k22.trans k24,?_,k24.bk hl22 l22,⟨hvl,hik⟩,λj v hj=>?_,ay.nil _ _ _ _,λb hb=>?_,λb hb=>hb.elim,U⟩
    .have:=k24.bk U b22;rw[show ks.length - i=(ks.length - (i+1))+1 by omega,List.replicate_succ]at this;exact this
    .obtain⟨A',n',K',h1,h2⟩:=hold j v hj;exact⟨A',n',K',h1,h2.nw k24⟩
    .have:=hD2 b hb;exact⟨this.1,U,this.2.2.1,this.2.2.2,id⟩
   refine⟨h24,s24,_,_,_,aa g24 rfl,λm x h25=>∃(j:Nat) (A:Option Addr) (mm K:Nat),x=j/\j<=n16/\m=n16 - j/\KC h7 h7.next h19.next ks.length i (N.kList p k c ks) h25 vals D2 A mm K (((N.outs p (k - 1) d).take j).map (N.kStep p k c L))/\mm=j/\Nw h7 h25,n16,⟨0,η,0,0,rfl,Nat.zero_le _,rfl,by simpa using C24,rfl,C24.nw⟩,?_⟩;rintro m x h25 ⟨j,A,mm,K,rfl,hj,rfl,C25,rfl,k25⟩;have w1:IntKind.i64.wrap ((mm:Int)+1)=((mm+1:Nat):Int):=by rw[Int.natCast_succ];exact ae U U
   refine⟨λhlt=>?_,λhge=>?_⟩
   .have hjn:mm<n16:=U;have s16':Sa cI D h25 A16 n16 K16 (ints (N.outs p (k - 1) d)):=by
     obtain⟨b3',o3',A15',n15',K15',A16',n16',K16',gx',gy',hA5',-,-,hgx',q1',q2',s15',s16'⟩:=(sG7.nw k25).gate (k:=i) hik;obtain⟨b7,o7,A157,n157,K157,A167,n167,K167,gx7,gy7,hA57,-,hb7,hgx7,q17,q27,s157,s167⟩:=sG7.gate (k:=i) hik;have e1:gy7=ints (N.outs p (k - 1) d):=by
      unfold iF at hgx7;rw[List.getElem?_map,List.getElem?_range hik]at hgx7;simp only[Option.map_some,hdD]at hgx7;injection hgx7 with hgx7;injection hgx7 with h1 h2;exact h2.symm
     subst e1;rw[hA5]at hA57;injection hA57 with hA57;injection hA57 with e2 e3;subst e2 e3;have e4:=(k22.ldC hb7 _).trans q27;rw[q2]at e4;injection e4 with e4;injection e4 with e5 e6 e7;subst e5 e6 e7;exact s167.nw k25
    obtain⟨b4,o4,x14,hA16,-,-,hx14,r0⟩:=s16'.int (k:=mm) hjn;obtain⟨mv,hmv⟩:∃mv,(N.outs p (k - 1) d)[mm]? = ψ mv:=⟨_,List.getElem?_eq_getElem U⟩;have hxm:x14=(mv:Int):=by simp[ints,hmv]at hx14;exact hx14.symm
    subst hxm;have hmvm:=List.mem_of_getElem? hmv;have hmvn:=(ab.mem_outs.1 hmvm).1;have htake:((N.outs p (k - 1) d).take (mm+1)).map (N.kStep p k c L)=((N.outs p (k - 1) d).take mm).map (N.kStep p k c L) ++ [N.kStep p k c L mv]:=by
     rw[List.take_add_one,hmv,List.map_append];rfl
    refine⟨mm,rfl,b4,o4,hA16,hjn,_,r0,_,_,_,aa (k25.bk U cb7) rfl,uZ mv (s27.nw k25) (bH _ _) U ⟨_,rfl,λh27 e27=>?_⟩⟩;obtain⟨h28,s28,k28,g28,z28⟩:=aD (vs:=[ω ξ 0,ω ξ (cE (N.outs p k c) mv),ω ξ 0]) e27 rfl (eR rfl rfl rfl);have fin:∀(h31:AH) (s:cm),Nw h25 h31->s=N.kStep p k c L mv->Bk h31 h25.next [ω ξ s.1,ω ξ s.2.1,ω ξ s.2.2] 354->
      ∃(A19:Option Addr) (n19:Nat) (K19:Nat),ldC h31 h19.next 0=ψ (Y A19 n19 K19)/\∃(A20:Option Addr) (n20:Nat) (K20:Nat),ldC h31 h19.next 0=ψ (Y A20 n20 K20)/\∃(b_5 o_5:Nat),A20=ψ ⟨b_5,o_5,η⟩/\i<n20/\∃(A21:Option Addr) (n21:Nat) (K21:Nat),ldC h31 b_5 (o_5+i)=ψ (Y A21 n21 K21)/\∃(x19:Int) (x20:Int) (x21:Int),aB h31 h25.next 0 3=ψ [ω ξ x19,ω ξ x20,ω ξ x21]/\
      ∀h32:AH,h32=AH.new h31 (.cells [ω ξ x19,ω ξ x20,ω ξ x21] 354 false)->∃(A22:Option Addr) (n22:Nat) (K22:Nat) (h33:AH),ah Tryz.prog h32 (ψ (.slice 354)) (ψ (.slice 354)) (Y A21 n21 K21) (Y (ψ ⟨h31.next,0,η⟩) 1 2)=ψ (Y A22 n22 K22,h33)/\ldC h33 h19.next 0=ψ (Y A19 n19 K19)/\bO (Y A19 n19 K19)/\∃(b_6 o_6:Nat),A19=ψ ⟨b_6,o_6,η⟩/\i<n19/\∃h34:AH,j0 h33 b_6 (o_6+i) [Y A22 n22 K22]=ψ h34/\
      ∃x22:Int,IntKind.i64.wrap ((mm:Int)+1)=x22/\∃m':Nat,m' < n16 - mm/\∃(j:Nat) (A:Option Addr) (mm K:Nat),x22=j/\j<=n16/\m' = n16 - j/\KC h7 h7.next h19.next ks.length i (N.kList p k c ks) h34 vals D2 A mm K (((N.outs p (k - 1) d).take j).map (N.kStep p k c L))/\mm=j/\Nw h7 h34:=by
     intro h31 s k31 hs gs;have C31:=C25.next k31;obtain⟨Q1,Q2,Q3,Q4,Q5⟩:=C31.pos;refine⟨_,_,_,aa C31.lbx rfl,_,_,_,aa C31.lbx rfl,_,_,rfl,hik,_,_,_,C31.cell,_,_,_,bo gs (by simp),λh32 e32=>?_⟩;obtain⟨A',K',h33,y1,y2,h34,y3,C34⟩:=C31.push U s h32 e32;refine⟨A',mm+1,K',h33,y1,y2,rfl,_,_,rfl,hik,h34,y3,_,w1,n16 - (mm+1),U,mm+1,A',mm+1,K',rfl,U,rfl,?_,rfl,C34.nw⟩;rw[htake,<-hs];exact C34
    refine⟨h28,s28,_,aa g28 rfl,λhneg=>?_,λhpos=>?_⟩
    .have hout:mv ∉ N.outs p k c:=λhm=>by have:=fa.2 hm;omega
     have hpl:cE (N.outs p k c) mv = -1:=by unfold cE;rw[if_neg hout]
     have hmL:mv∈L:=by rw[<-hL];exact El hKs O.ok O.hp hk hkl hdm hmvm hout
     have hst:N.kStep p k c L mv=(((L.idxOf mv:Nat):Int),-1,N.w mv):=by unfold ab.kStep;rw[if_neg hout,if_pos hmL]
     have wb:=ab.w_bd G.ok mv;rw[hpl]at g28;refine⟨_,_,Au (m7.keep ((k25.trans k28).get _ U)) mv,λ_=>?_,λhf=>absurd hmL (of_decide_eq_false hf)⟩;rw[if_pos hmL];refine me ((G7.nw k25).nw k28) hmvn ⟨_,rfl,?_⟩;obtain⟨h30,s30,b30,z30,q30⟩:=ax (v:=ω ξ ((L.idxOf mv:Nat):Int)) g28 (o:=0) (by simp) rfl;obtain⟨h31,s31,b31,z31,q31⟩:=ax (v:=ω ξ (N.w mv)) b30 (o:=2) (by simp) rfl;have k31:Nw h25 h31:=⟨U,λb hb=>(q31 b U).trans ((q30 b U).trans (k28.get b hb))⟩;exact⟨h30,s30,h31,s31,fin h31 (((L.idxOf mv:Nat):Int),-1,N.w mv) k31 hst.symm b31⟩
    .have hout:mv∈N.outs p k c:=fa.1 U;have hpl:cE (N.outs p k c) mv=(((N.outs p k c).idxOf mv:Nat):Int):=by unfold cE;rw[if_pos hout]
     have hst:N.kStep p k c L mv=(0,(((N.outs p k c).idxOf mv:Nat):Int),0):=by unfold ab.kStep;rw[if_pos hout]
     rw[hpl]at g28;exact fin h28 (0,(((N.outs p k c).idxOf mv:Nat):Int),0) k28 hst.symm g28
   .obtain rfl:mm=n16:=U;have hC:=C25.own;rw[List.take_of_length_le U]at hC;obtain⟨Q1,Q2,Q3,Q4,Q5⟩:=C25.pos;have wi:IntKind.i64.wrap ((i:Int)+1)=((i+1:Nat):Int):=by rw[Int.natCast_succ];exact ae U U
    refine⟨_,wi,ks.length - (i+1),U,i+1,vals ++ [Y A mm K],λb=>D2 b\/ai A b,rfl,U,rfl,k25,?_,C25.lbx,by simp[hvl],λq v hq=>?_,λb hb=>?_,Q5⟩
    .have:=C25.blk
     rwa [List.append_cons]at this
    .rw[List.getElem?_append]at hq
     split at hq
     .obtain⟨A',n',K',h1,h2⟩:=C25.old q v hq;exact⟨A',n',K',h1,h2.mono λb hb _=>.inl hb⟩
     .rename_i hge2;have hq0:q=vals.length:=by
       have:=(List.getElem?_eq_some_iff.1 hq).1;simp at this;omega
      subst hq0;simp at hq;subst hq;refine⟨A,mm,K,rfl,?_⟩;rw[hvl,hkl1];exact hC.sa.mono λb hb _=>.inr hb
    .rcases hb with hb | hb
     .have:=C25.dlo b hb;exact⟨this.1,this.2.1,this.2.2.1,this.2.2.2.1⟩
     .have:=C25.alo b hb;exact⟨this.1,hC.own hb,this.2.1,this.2.2⟩
  .obtain rfl:i=ks.length:=U;rw[Nat.sub_self,List.replicate_zero,List.append_nil]at b22;obtain⟨A12,K12,t1,t2,t3⟩:=B7.spt;rw[hL]at t1 t2;have z22:=k22.next;refine⟨_,_,_,aa (k22.bk P5 t1) rfl,λh45 e45=>?_⟩;obtain⟨h46,s46,k46,g46,z46⟩:=aD (vs:=[ω ξ L.length,Y η 0 0,.nilFunc]) e45 rfl (eR rfl rfl rfl);have k746:=k22.trans k46;have m46:=m7.keep (k746.get _ P4);refine⟨h46,s46,_,_,_,aa (k746.bk U cb7) rfl,λm x h47=>∃(q:Nat) (A17:Option Addr) (K17:Nat),x=q/\q<=n1/\m=n1 - q/\Bk h47 h22.next [ω ξ L.length,Y A17 q K17,.nilFunc] 257/\ay cI h47 (ai A17) 3 A17 q K17 (ints (((N.ins p k c).take q).map λa=>L.idxOf a))/\(∀b,ai A17 b->h46.next<=b)/\h46.next<=h47.next/\(∀b,b<h46.next->b≠h22.next->h47.get b=h46.get b),n1,⟨0,η,0,rfl,Nat.zero_le _,rfl,g46,ay.nil _ _ _ _,λb hb=>hb.elim,Nat.le_refl _,λ_ _ _=>rfl⟩,?_⟩;rintro m x h47 ⟨q,A17,K17,rfl,hq,rfl,b47,o47,lo47,hz47,q47⟩;refine⟨λhlt=>?_,λhge=>?_⟩
   .have hqn:q<n1:=U;have s1':Sa cI F1 h3 A1 n1 K1 (ints (N.ins p k c)):=s13;obtain⟨b5,o5,x34,hA1,-,hb5,hx34,r5⟩:=s13.int (k:=q) hqn;obtain⟨e,he⟩:∃e,(N.ins p k c)[q]? = ψ e:=⟨_,List.getElem?_eq_getElem U⟩;have hxe:x34=(e:Int):=by simp[ints,he]at hx34;exact hx34.symm
    subst hxe;have heL:e∈L:=by rw[<-hL];exact(hKs.in_kid O.ok O.hp hk hkl).2 (qK O.ok O.hp hk hkl (List.mem_of_getElem? he))
    have same3:∀b,b<h3.next->h47.get b=h3.get b:=λb hb=>(q47 b U U).trans ((k746.get b U).trans (B7.nw.get b hb));have m47:=m46.keep (q47 _ U U);have hlk:=Ej m47 e;rw[if_pos heL]at hlk;refine⟨q,rfl,b5,o5,hA1,hqn,_,(bj (same3 b5 hb5) _).trans r5,_,_,_,aa b47 rfl,_,hlk,λh48 e48=>?_⟩;obtain⟨k48,g48,z48⟩:=aj e48;have hz:Sz cI (λz=>z=h47.next) h48 (ψ ⟨h47.next,0,η⟩) 1 2 [((L.idxOf e:Nat):Int)]:=Sz.one g48 rfl U rfl rfl;obtain⟨A18,K18,h49,y1,y2,y3,y4⟩:=bq (gR _) (r:=cI) dR (o47.nw k48) hz U U;have z49:=y3.next;have b49:=y3.bk (b:=h22.next) U (λho=>by have:=lo47 _ ho;omega) (k48.bk U b47);obtain⟨h50,s50,b50,z50,o50⟩:=ax (v:=Y A18 (q+1) K18) b49 (o:=1) (by simp) rfl;have lo18:∀z,ai A18 z->h46.next<=z:=λz hz=>(y4 z hz).elim (lo47 z) (λh=>U);refine⟨A18,q+1,K18,h49,y1,h50,s50,_,ae U U,n1 - (q+1),U,q+1,A18,K18,U,U,rfl,b50,?_,lo18,U,λz hz hne=>(o50 z hne).trans ((y3.get z U (λho=>by have:=lo47 _ ho;omega)).trans ((k48.get z U).trans (q47 z hz hne)))⟩;have:ints (((N.ins p k c).take (q+1)).map λa=>L.idxOf a)=ints (((N.ins p k c).take q).map λa=>L.idxOf a) ++ [((L.idxOf e:Nat):Int)]:=by
     rw[List.take_add_one,he];simp[ints]
    rw[this];exact y2.keep (λz hz _=>o50 z (by have:=lo18 z hz;omega)) U
   .obtain rfl:q=n1:=U;rw[List.take_of_length_le U]at o47;obtain⟨h51,s51,b51,z51,o51⟩:=ax (v:=.func (.func 207) #[] #[ν (ψ ⟨h4.next,0,η⟩),ν (ψ ⟨h19.next,0,η⟩),ν (ψ ⟨h1.next,0,η⟩)]) b47 (o:=2) (by simp) rfl;have f51:Bk h51 h2.next [ω ξ 0,Y η 0 0,.nilFunc] 257:=(o51 _ U).trans ((q47 _ U U).trans (k746.bk U (B7.nw.bk U g3)));obtain⟨h52,s52,b52,z52,o52⟩:=dh (vs:=[ω ξ L.length,Y A17 q K17,.func (.func 207) #[] #[ν (ψ ⟨h4.next,0,η⟩),ν (ψ ⟨h19.next,0,η⟩),ν (ψ ⟨h1.next,0,η⟩)]]) f51 rfl (eR rfl rfl rfl);have same:∀z,z<h46.next->z≠h22.next->z≠h2.next->h52.get z=h46.get z:=λz hz h1 h2=>(o52 z h2).trans ((o51 z h1).trans (q47 z hz h1));have same7:∀z,z<h7.next->z≠h2.next->h52.get z=h7.get z:=λz hz h2=>(same z U U h2).trans (k746.get z hz);have same22:∀z,z<h22.next->z≠h2.next->h52.get z=h22.get z:=λz hz h2=>(same z U U h2).trans (k46.get z hz);have same3:∀z,z<h3.next->z≠h2.next->h52.get z=h3.get z:=λz hz h2=>(same7 z U h2).trans (B7.nw.get z hz);refine⟨h51,s51,_,_,_,_,_,_,bo b51 (by simp),h52,s52,_,_,_,_,_,_,bo b52 (by simp),?_⟩;have hnw:Nw h h52:=⟨U,λz hz=>(same3 z U U).trans (k03.get z hz)⟩;have hA17:Sa cI (λb=>h.next<=b) h52 A17 q K17 (ints ((N.ins p k c).map λa=>L.idxOf a)):=((o47.keep (λz hz _=>(o52 z (by have:=lo47 z hz;omega)).trans (o51 z (by have:=lo47 z hz;omega))) U).sa).mono λz hz _=>by have:=lo47 z hz;omega
    have lohi:=B7.hlo;have hspb:ldC h52 h4.next 0=ψ (Y A12 L.length K12):=aa ((same7 _ P5 U).trans t1) rfl;have hsps:Sa jo (ai A12) h52 A12 L.length K12 (N.spK p k ks ks.length):=t2.sa.keep (λz hz hlt=>same7 z hlt (by have:=(t3 z hz).1;omega)) U;have hlb:ldC h52 h19.next 0=ψ (Y (ψ ⟨h7.next,0,η⟩) ks.length (cx ks.length)):=aa ((same22 _ hl22 U).trans l22) rfl;have hvb:Bk h52 h7.next vals 352:=(same22 _ U U).trans b22;have hls:Sa (Rc.slice aS) (λb=>D2 b\/b=h7.next) h52 (ψ ⟨h7.next,0,η⟩) ks.length (cx ks.length) ((List.range ks.length).map (N.kList p k c ks)):=
     Sa.of_bk hvb (by simp) (.inr rfl) U λj r hj=>by
      rw[List.getElem?_map]at hj;by_cases hjl:j<ks.length
      .rw[List.getElem?_range hjl]at hj;simp only[Option.map_some,Option.some.injEq]at hj;subst hj;obtain⟨v,hv⟩:∃v,vals[j]? = ψ v:=⟨_,List.getElem?_eq_getElem U⟩;obtain⟨A',n',K',rfl,h2⟩:=hold j v hv;refine⟨A',n',K',?_,(h2.keep (λz hz hlt=>same22 z hlt (by have:=(hD2 z hz).1;omega)) U).mono λb hb _=>.inl hb⟩;show(vals.drop (j*1)).take 1=_;rw[Nat.mul_one];exact du hv
      .rw[List.getElem?_eq_none (by simpa using hjl)]at hj;cases hj
    have hcb':ldC h52 h1.next 0=ψ (Y A3 n3 K3):=aa ((same3 _ U U).trans xb3) rfl;have hcs:Sa cI (λb=>F3 b/\b<h.next) h52 A3 n3 K3 costs:=((s3.mono (G:=λb=>F3 b/\b<h.next) λb hb hlt=>⟨hb,hlt⟩).nw hnw);have hn3:=s3.len;have hx:=Em (h0:=h52) ⟨U,U,U⟩ hspb hsps hlb hls hcb' hcs U (λx hx=>?_) hcb (λr hr s hs=>?_)
    .have hfun:(λq=>match (N.spK p k ks ks.length)[q]? with | some x=>qJ costs x.1.toNat ((((List.range ks.length).map (N.kList p k c ks))[x.2.toNat]?).getD []) | none=>[])=N.kSteps p k c ks costs:=by
      funext q'
      unfold ab.kSteps;cases hq':(N.spK p k ks ks.length)[q']? with
      | none=>rfl
      | some x=>
       obtain⟨a,ha⟩:∃a,(N.LK p k ks ks.length)[q']? = ψ a:=⟨_,List.getElem?_eq_getElem (by rw[<-jL];exact(List.getElem?_eq_some_iff.1 hq').1)⟩;obtain⟨i',j',d',h1',h2',h3',h4'⟩:=zY ks.length (Nat.le_refl _) ha;rw[hq']at h4';injection h4' with h4';subst h4';simp[h1']
     have hx2:=(congrArg (λf=>kX h52 207 #[ν (ψ ⟨h4.next,0,η⟩),ν (ψ ⟨h19.next,0,η⟩),ν (ψ ⟨h1.next,0,η⟩)] L.length f) hfun).mp hx;have hKK:=hK ks A17 K17 _ h52 hKs (by rw[hL];exact hx2) (by rw[hL];exact hA17) hnw;rw[hL]at hKK;exact hKK
    .obtain⟨q',hq'⟩:=List.getElem?_of_mem hx;obtain⟨a,ha⟩:∃a,(N.LK p k ks ks.length)[q']? = ψ a:=⟨_,List.getElem?_eq_getElem (by rw[<-jL];exact(List.getElem?_eq_some_iff.1 hq').1)⟩;obtain⟨i',j',d',h1',h2',h3',h4'⟩:=zY ks.length (Nat.le_refl _) ha;rw[hq']at h4';injection h4' with h4';subst h4';have hd'm:=List.mem_of_getElem? h2';have hd'l:=hKs.lt O.hp hk hkl hd'm;have hse:=ab.start_end (N:=N) (p:=p) (k:=k - 1) U U hd'l;have hj':=(List.getElem?_eq_some_iff.1 h3').1;have hkl':(N.kList p k c ks i').length=(N.outs p (k - 1) d').length:=by unfold ab.kList;rw[h2'];simp
     refine⟨i',N.kList p k c ks i',rfl,by simp[h1'],by rw[hkl'];exact Nat.le_trans (aL _ _) U,?_⟩;by_cases he:N.outs p (k - 1) d' = []
     .left;unfold ab.kList;rw[h2'];simp[he]
     .right;unfold ab.firstK;rw[if_neg he];simp only[Int.toNat_natCast];refine⟨Int.natCast_nonneg _,?_⟩;rw[hkl'];unfold ab.sz at hse;have h5:(j' + 1)*(N.outs p (k - 1) d').length<=(N.ins p (k - 1) d').length*(N.outs p (k - 1) d').length:=Nat.mul_le_mul_right _ hj';rw[Nat.succ_mul]at h5;omega
    .obtain⟨i',hi',rfl⟩:=List.mem_map.1 hr;obtain⟨mv,hmv,rfl⟩:=List.mem_map.1 hs;have wb:=ab.w_bd G.ok mv;unfold ab.kStep
     split
     .exact Int.le_refl _
     .split
      .exact wb.1
      .show(0:Int)<=1152921504606846976;omega
end
end Eva
end
section
open Go Go.RowKit
theorem qX {l:List Int}{i outs j:Nat}(hj:j<outs):at_ ((l.drop (i*outs)).take outs) j=at_ l (i*outs+j):=by
 unfold at_;rw[List.getElem?_take,if_pos hj,List.getElem?_drop]
theorem Jx {m outs q:Nat}(h:q<m*outs):q / outs<m/\q % outs<outs/\q / outs*outs+q % outs=q:=by
 have h0:0<outs:=by
  rcases Nat.eq_zero_or_pos outs with h1 | h1
  .rw[h1,Nat.mul_zero]at h;omega
  .exact h1
 exact⟨(Nat.div_lt_iff_lt_mul h0).2 h,Nat.mod_lt _ h0,by rw[Nat.mul_comm];exact Nat.div_add_mod q outs⟩
theorem Aw {m outs:Nat}{steps:Nat->List cm}{starts:List Nat}{l:List Int}(hl:l.length=m*outs) (hs:starts.length=m) (hr:∀i st,starts[i]? = ψ st->sX outs steps st ((l.drop (i*outs)).take outs)):∀x∈l,0<=x:=λx hx=>by
 obtain⟨q,hq⟩:=List.getElem?_of_mem hx;have hql:=(List.getElem?_eq_some_iff.1 hq).1;obtain⟨h1,h2,h3⟩:=Jx (hl ▸ hql);have h4:=(hr (q / outs) (starts[q / outs]' U) (List.getElem?_eq_getElem U)).2 (q % outs) h2;rw[qX h2,h3]at h4;have:at_ l q=x:=by unfold at_;rw[hq];rfl
 rw[this]at h4;exact h4.1.1
namespace Eva
section
variable {h:AH}{Q:Value->AH->Prop}{Fa F Fo F3:Nat->Prop}{g o:Nat}{N:ab}{p:List (List Int)}{k c:Nat}{A3:Option Addr}{n3 K3:Nat}{costs:List Int}
theorem Jy (G:gS h Fa F g N) (hna3:N.na<=300) (O:fE h Fo o N p) (hk:1<=k) (hkl:k<=p.length) (hc:c<au p k) (s3:Sa cI F3 h A3 n3 K3 costs) (hlen:costs.length=N.size p) (hsz:N.size p<=1000000) (hcb:∀x∈costs,0<=x)
  (hbel:2<=k->∀d,d<au p (k - 1)->bz N p costs (k - 1) d)
  (hK:∀(A:Option Addr) (n K:Nat) (l:List Int) (h':AH),Sa cI (λb=>h.next<=b) h' A n K l->GV N p k c l->(∀x∈l,0<=x)->Nw h h'->Q (Y A n K) h') :
  WC Tryz.prog 58 [ν (ψ ⟨g,0,η⟩),ν (ψ ⟨o,0,η⟩),ω ξ k,ω ξ c,Y A3 n3 K3] h Q:=by
 have hna:=G.few.2;have hok:=G.ok;obtain⟨ni,hni⟩:∃ni,(N.ins p k c).length=ni:=⟨_,rfl⟩;obtain⟨no,hno⟩:∃no,(N.outs p k c).length=no:=⟨_,rfl⟩;have hni2:ni<=300:=by rw[<-hni];exact Nat.le_trans (aL _ _) hna3
 have hno2:no<=300:=by rw[<-hno];exact Nat.le_trans (aL _ _) hna3
 have hnn:ni*no<=300*300:=Nat.mul_le_mul hni2 hno2;have nil:∀h',Nw h h'->N.sz p k c=0->Q (Y η 0 0) h':=λh' a h0=>hK η 0 0 [] h' ⟨rfl,.inl ⟨rfl,rfl,rfl⟩,λh=>absurd h (Nat.lt_irrefl _)⟩ ⟨h0.symm,λi j a b hi hj=>by
  have:=qH (List.getElem?_eq_some_iff.1 hi).1 (List.getElem?_eq_some_iff.1 hj).1;unfold ab.sz at h0;omega⟩ (by simp) a
 refine yD ⟨λh=>absurd h U,λ_=>u9 O hk hkl ⟨_,rfl,λh=>absurd h U,λ_=>D4 O hk hkl hc λA2 K2 A3' K3' h2 sA sB k2=>⟨_,_,_,_,_,_,rfl,λh3 e3=>?_⟩⟩⟩;rw[hni]at sA⊢;rw[hno]at sB⊢;obtain⟨h4,s4,k4,g4,z4⟩:=aD (vs:=[Y A2 ni K2,Y A3' no K3']) e3 rfl (cR rfl rfl);have k04:=k2.trans k4;refine⟨h4,s4,_,_,_,aa g4 rfl,λh0=>nil h4 k04 (by unfold ab.sz;rw[hni,hno,show ni=0 by omega,Nat.zero_mul]),λhn0=>⟨_,_,_,aa g4 rfl,λh0=>nil h4 k04 (by unfold ab.sz;rw[hni,hno,show no=0 by omega,Nat.mul_zero]),λho0=>⟨λhk1=>?_,λhk1=>?_⟩⟩⟩
 .obtain rfl:k=1:=U;refine⟨_,_,_,_,_,_,bo g4 (by simp),_,_,_,aa g4 rfl,?_⟩;have z2:=k2.next;refine F8 (G.nw k04) (sA.nw k4) (sB.nw k4) λL S sb A' K' h5 hL hN s5 k5=>⟨_,_,_,_,_,_,rfl,aa (k5.bk U g4) rfl,(sB.eqok),?_⟩;obtain⟨hA,hF⟩:=hL.fld hok;have hLl:=hL.len;rw[hno]at hF;refine Eh s5 hF (by have:4294967296*(L.length+1)<=4294967296*1001:=Nat.mul_le_mul_left _ U;omega) U U U (λs hs=>?_) hN λC l h6 b6 hC hC2 hl hr k6=>⟨_,_,_,rfl,?_⟩
  .have:s<ni:=by simpa using hs
   obtain⟨M,hM⟩:=hL.pre;rw[hM,List.length_append];omega
  .have k5':=k5.next;refine hK _ _ _ l h6 ((Sa.of_ints b6 hl (F:=λb=>h.next<=b) (by have:=k04.next;omega) hC2)) ⟨by unfold ab.sz;rw[hni,hno];exact hl,λi j a b hi hj=>?_⟩ (Aw hl (by simp) hr) (((k04.trans k5).trans k6));have hil:i<ni:=by rw[<-hni];exact(List.getElem?_eq_some_iff.1 hi).1
   have hjl:j<no:=by rw[<-hno];exact(List.getElem?_eq_some_iff.1 hj).1
   have:=hA.row hF hi hno (hr i i (by rw[List.getElem?_range hil])) hj;rw[qX hjl]at this;rw[hno];exact this
 .have hk2:2<=k:=U;refine⟨_,_,_,_,_,_,bo g4 (by simp),_,_,_,aa g4 rfl,?_⟩;have z2:=k2.next;refine Ga (G.nw k04) (O.nw k04) hk2 hkl hc (sA.nw k4) (sB.nw k4) (s3.nw k04) hlen hsz hcb λks A' K' fb h5 hKs hN s5 k5=>⟨_,_,_,_,_,_,rfl,aa (k5.bk U g4) rfl,(sB.eqok),?_⟩;obtain⟨hA,hF,hB⟩:=hKs.fld hok O.hp hk2 hkl (costs:=costs) λd hd=>hbel hk2 d (hKs.lt O.hp hk2 hkl hd);have hLl:=DV (N:=N) (p:=p) (k:=k) hKs.asc (Nat.le_refl ks.length);rw[hno]at hF;refine Eh s5 hF (by
   have h1:4294967296*(N.na+2)<=4294967296*302:=Nat.mul_le_mul_left _ U;have h2:4294967296*(N.na+2)*((N.LK p k ks ks.length).length+1)<=(4294967296*302)*301:=Nat.mul_le_mul h1 U;omega) U U U (λs hs=>?_) hN λC l h6 b6 hC hC2 hl hr k6=>⟨_,_,_,rfl,?_⟩
  .obtain⟨a,ha,rfl⟩:=List.mem_map.1 hs;exact List.idxOf_lt_length_of_mem ((hKs.in_kid hok O.hp hk2 hkl).2 (qK hok O.hp hk2 hkl ha))
  .have k5':=k5.next;refine hK _ _ _ l h6 ((Sa.of_ints b6 hl (F:=λb=>h.next<=b) (by have:=k04.next;omega) hC2)) ⟨by unfold ab.sz;rw[hni,hno];exact hl,λi j a b hi hj=>?_⟩ (Aw hl (by simp[hni]) hr) (((k04.trans k5).trans k6));have hjl:j<no:=by rw[<-hno];exact(List.getElem?_eq_some_iff.1 hj).1
   have hst:((N.ins p k c).map λa=>(N.LK p k ks ks.length).idxOf a)[i]? = ψ ((N.LK p k ks ks.length).idxOf a):=by rw[List.getElem?_map,hi];rfl
   have:=hA.row hok O.hp hk2 hkl hB hF hi hst hno (hr i _ hst) hj;rw[qX hjl]at this;rw[hno];exact this
end
end Eva
end
section
open Go Go.RowKit
namespace Eva
theorem En:∃i,Tryz.prog.info? 2=ψ i/\i.size=1:=by
 obtain⟨q,q1,q2,-⟩:=bg Jt;exact⟨q,q1,q2⟩
theorem Ax {P:Program}{e C n lo:Nat}(hT:∃i,P.info? e=ψ i/\i.size=1) (h1:lo<=n):∃x K,(lo<n->x=lo)/\am P e (ψ ⟨C,0,η⟩) n (cx n) (ψ lo) η η=ψ (Y (ψ ⟨C,x,η⟩) (n - lo) K):=by
 obtain⟨i,hi',hsz⟩:=hT;unfold am;rw[hi'];have hc2:(cx n) / 2=n:=by unfold cx;omega
 have hp:Nat.beq ((cx n) % 2) 0=true:=by
  have:(cx n) % 2=0:=by unfold cx;omega
  rw[this];rfl
 have hb1:Nat.ble n ((cx n) / 2)=true:=Nat.ble_eq_true_of_le U;have hb0:Nat.ble lo n=true:=Nat.ble_eq_true_of_le h1;show ∃x K,(lo<n->x=lo)/\cond (Option.isNone (none:Option Nat) || Option.isSome (none:Option Nat)) (bS i.size (ψ ⟨C,0,η⟩) n (cx n) ((ψ lo).getD 0) η η) η=_;simp only[Option.isNone_none,Bool.true_or,cond_true,Option.getD_some];unfold bS;simp only[Option.getD_none,hb1,hb0,Bool.and_self,cond_true,hp];unfold mO og;rw[hc2,hsz,Nat.mul_one];cases hb:Nat.beq n lo with
 | true=>
  have:=aq hb;exact⟨0,_,λh=>U,rfl⟩
 | false=>
  refine⟨lo,cx (n - lo),λ_=>rfl,?_⟩;simp only[cond_false,Option.map_some];rw[aZ,Nat.zero_add]
section
variable {h:AH}{F:Nat->Prop}
theorem Eo {C n lo x K n2 K2:Nat}{costs l:List Int}{A2:Option Addr}(hb:Bk h C (costs.map (Value.int .i64)) 2) (hn:costs.length=n) (hl:Sa cI F h A2 n2 K2 l) (hlo:lo+n2<=n) (hx:lo<n->x=lo) :
  ∃h',jX Tryz.prog h (ψ (.slice 2)) (Y (ψ ⟨C,x,η⟩) (n - lo) K) (Y A2 n2 K2)=ψ (ω ξ n2,h')/\Bk h' C ((eD costs l lo).map (Value.int .i64)) 2/\h'.next=h.next/\∀b,b≠C->h'.get b=h.get b:=by
 obtain⟨i,hi,hsz⟩:=En;unfold jX;simp only[C0,hi,hsz];have hble:Nat.ble n2 (n - lo)=true:=Nat.ble_eq_true_of_le U;rw[hble];simp only[cond_true];have hl2:=hl.len;have hf:fM h 1 n2 (Y A2 n2 K2)=ψ (l.map (Value.int .i64)):=kc (by simp[hl2]) λh0=>by
  obtain⟨b,o,hA,-,-,hx⟩:=hl.at_ h0;refine⟨b,o,hA,λj u hu=>?_⟩;rw[List.getElem?_map]at hu;cases hj:l[j]? with
  | none=>rw[hj]at hu;cases hu
  | some y=>
   rw[hj]at hu;obtain rfl:=Option.some.inj hu;obtain⟨cs,hc,hr⟩:=hx j y hj;have hr':cs = [ω ξ y]:=hr;have:=hc 0 (ω ξ y) (by rw[hr'];rfl);simpa[Rc.int]using this
 rw[hf];simp only;unfold xZ;rcases Nat.eq_zero_or_pos n2 with h0 | h0
 .subst h0;have:l = []:=List.eq_nil_of_length_eq_zero hl2;subst this;refine⟨h,rfl,?_,rfl,λ_ _=>rfl⟩;unfold eD;simpa using hb
 .have hb0:Nat.beq (l.map (Value.int .i64)).length 0=false:=by
   cases hb0:Nat.beq (l.map (Value.int .i64)).length 0 with
   | false=>rfl
   | true=>have:=aq hb0;simp at this;rw[this]at hl2;simp at hl2;omega
  simp only[hb0,cond_false];obtain rfl:=hx U;have:=GW (h:=h) (b:=C) (o:=x) (vs:=l.map (Value.int .i64)) hb (by simp;omega) (λv hv=>by obtain⟨y,-,rfl⟩:=List.mem_map.1 hv;rfl);unfold j0 at this;rw[this];refine⟨_,rfl,?_,rfl,λb hb=>by rw[get_put,if_neg hb]⟩;show(h.put C _).get C=_;rw[get_put,if_pos rfl];unfold eD;simp[List.map_take,List.map_drop]
end
section
variable {h:AH}{Q:Value->AH->Prop}{Fa F Fo:Nat->Prop}{g o:Nat}{N:ab}{p:List (List Int)}
theorem xd {costs l:List Int}{i:Nat}(h1:∀x∈costs,0<=x) (h2:∀x∈l,0<=x):∀x∈eD costs l i,0<=x:=λx hx=>by
 unfold eD at hx;rcases List.mem_append.1 hx with hx | hx
 .rcases List.mem_append.1 hx with hx | hx
  .exact h1 x (List.mem_of_mem_take hx)
  .exact h2 x hx
 .exact h1 x (List.mem_of_mem_drop hx)
theorem Lg (G:gS h Fa F g N) (hna3:N.na<=300) (O:fE h Fo o N p) (hsz:N.size p<1000000)
  (hK:∀(C:Nat) (costs:List Int) (h':AH),Bk h' C (costs.map (Value.int .i64)) 2->h.next<=C->C<h'.next->cZ N p costs->(∀x∈costs,0<=x)->Nw h h'->Q (Y (ψ ⟨C,0,η⟩) (N.size p) (cx (N.size p))) h') :
  WC Tryz.prog 54 [ν (ψ ⟨g,0,η⟩),ν (ψ ⟨o,0,η⟩)] h Q:=by
 have hp6:=O.hp.few;have hp1:=O.hp.some_;obtain⟨T,hT⟩:∃T,N.size p=T:=⟨_,rfl⟩;refine yC (D1 O ⟨_,rfl,T,by rw[hT],U,λh2 e2=>?_⟩);obtain⟨k2,g2,z2⟩:=aj e2;rw[aQ]at g2;refine⟨λm x y h3=>∃(k:Nat) (costs:List Int),x=((N.start p k 0:Nat):Int)/\y=k/\1<=k/\k<=p.length+1/\m=p.length+1 - k/\costs.length=T/\Bk h3 h.next (costs.map (Value.int .i64)) 2/\(∀k' c',1<=k'->k' < k->c' < au p k'->bz N p costs k' c')/\(∀x∈costs,0<=x)/\Nw h h3/\h.next<h3.next,p.length,⟨1,List.replicate T 0,by rw[ab.start_one];rfl,rfl,Nat.le_refl _,U,U,by simp,by simpa using g2,λk' c' h1 h2=>U,λx hx=>by rw[List.eq_of_mem_replicate hx];exact Int.le_refl _,k2,U⟩,?_⟩;rintro m x y h3 ⟨k,costs,rfl,rfl,hk1,hk2,rfl,hl,b3,hc,hnn,k3,hlt3⟩;refine Ad (O.nw k3) ⟨_,rfl,λhle=>?_,λhgt=>?_⟩
 .have hkl:k<=p.length:=U;have wk:IntKind.i64.wrap ((k:Int)+1)=((k+1:Nat):Int):=by rw[Int.natCast_succ];exact ae U U
  refine u9 (O.nw k3) hk1 hkl ⟨_,rfl,λm x y h6=>∃(c:Nat) (costs:List Int),x=((N.start p k c:Nat):Int)/\y=c/\c<=au p k/\m=au p k - c/\costs.length=T/\Bk h6 h.next (costs.map (Value.int .i64)) 2/\(∀k' c',1<=k'->k'<=p.length->c' < au p k'->(k' < k\/(k' = k/\c' < c))->bz N p costs k' c')/\(∀x∈costs,0<=x)/\Nw h h6/\h.next<h6.next,au p k,⟨0,costs,rfl,rfl,Nat.zero_le _,rfl,hl,b3,λk' c' h1 h2 h3 h4=>h4.elim (λh=>hc k' c' h1 h h3) (λh=>U),hnn,k3,hlt3⟩,?_⟩;rintro m x y h6 ⟨c,costs',rfl,rfl,hcm,rfl,hl',b6,hc',hnn',k6,hlt6⟩;refine⟨λhlt=>?_,λhge=>?_⟩
  .have hcl:c<au p k:=U;have hse:=ab.start_end (N:=N) hk1 hkl hcl;obtain⟨st,hst⟩:∃st,N.start p k c=st:=⟨_,rfl⟩;rw[hst]at hse;have hmost:au p k<=N.nv:=by
    obtain⟨row,hr⟩:∃row,p[k - 1]? = ψ row:=⟨_,List.getElem?_eq_getElem U⟩;have h2:=gU hr;have h3:=dq (row:=row) (n:=(N.nv:Int)) U (λx hx=>(O.hp.inr _ (List.mem_of_getElem? hr) x hx).2);omega
   have hnv:=O.nfew.1;have wc:IntKind.i64.wrap ((c:Int)+1)=((c+1:Nat):Int):=by rw[Int.natCast_succ];exact ae U U
   obtain⟨x1,K1,hx1,hsl⟩:=Ax (P:=Tryz.prog) (C:=h.next) (n:=T) (lo:=st) En U;have s6:Sa cI (λb=>b=h.next) h6 (ψ ⟨h.next,0,η⟩) T (cx T) costs':=Sa.of_ints b6 hl' rfl hlt6;refine⟨st,by rw[hst],_,_,_,hsl,Jy (G.nw k6) hna3 (O.nw k6) hk1 hkl hcl s6 U U hnn' (λh2 d hd=>hc' (k - 1) d U U hd (.inl U)) λA2 n2 K2 l h7 s7 hone hlnn k7=>⟨_,_,_,rfl,?_⟩⟩;have b7:=k7.bk hlt6 b6;have hn2:n2=N.sz p k c:=by rw[<-s7.len];exact hone.1
   obtain⟨h8,y1,y2,y3,y4⟩:=Eo (K:=K1) b7 hl' s7 (lo:=st) (x:=x1) U hx1;have w9:IntKind.i64.wrap ((st:Int)+(n2:Int))=((N.start p k (c+1):Nat):Int):=by
    rw[ab.start_cell,hst,<-hn2,Int.natCast_add];exact ae U U
   have z7:=k7.next;refine⟨_,h8,y1,_,w9,_,wc,au p k - (c+1),U,c+1,eD costs' l st,rfl,rfl,hcl,rfl,by rw[sU (by rw[s7.len];omega)];exact hl',y2,λk' c' h1 h2 h3 h4=>?_,xd hnn' hlnn,⟨by have:=k6.next;omega,λb hb=>(y4 b U).trans ((k7.get b U).trans (k6.get b hb))⟩,U⟩;by_cases e:k=k'/\c=c'
   .obtain⟨rfl,rfl⟩:=e;rw[<-hst];exact bz.put U hk1 hkl hcl hone
   .rw[<-hst];exact bz.putO U hk1 hkl hcl hone.1 h1 h2 h3 e (hc' k' c' h1 h2 h3 U)
  .obtain rfl:c=au p k:=U;exact⟨_,wk,p.length+1 - (k+1),U,k+1,costs',by rw[ab.start_lev hk1],rfl,U,U,rfl,hl',b6,λk' c' h1 h2 h3=>hc' k' c' h1 U h3 (by
    rcases Nat.lt_or_ge k' k with h4 | h4
    .exact .inl h4
    .obtain rfl:k' = k:=U;exact .inr ⟨rfl,h3⟩),hnn',k6,hlt6⟩
 .obtain rfl:k=p.length+1:=U;have:=hK h.next costs h3 b3 (Nat.le_refl _) hlt3 ⟨U,λk c h1 h2 h3=>hc k c h1 U h3⟩ hnn k3
  rwa [hT]at this
end
end Eva
end
section
open Go Go.RowKit
namespace Eva
theorem Jz:tf Tryz.prog 58 1 24=true:=by kernel_rfl
section
variable {h:AH}{Q:Value->AH->Prop}{F:Nat->Prop}{A:Option Addr}{n K:Nat}{p:List (List Int)}
theorem G6 (hs:Sa aM F h A n K p) (hn:n<=1000) (hm:∀x∈p,x.length<=100000) (hK:∀A' K' h',Sa aM (λb=>h.next<=b) h' A' n K' p->Nw h h'->Q (.agg #[Y A' n K']) h'):WC Tryz.prog 156 [.agg #[Y A n K]] h Q:=by
 refine wq λh1 e1 h2 e2 h3 e3=>?_;obtain⟨k1,g1,z1⟩:=aj e1;obtain⟨k2,g2,z2⟩:=aj e2;obtain⟨k3,g3,z3⟩:=aj e3;have hpl:=hs.len;refine⟨_,_,_,aa ((k2.trans k3).bk U g1) rfl,λm x h4=>∃(i:Nat) (A':Option Addr) (K':Nat) (D:Nat->Prop),x=i/\i<=n/\m=n - i/\Bk h4 h2.next [Y A' i K'] 207/\ay aM h4 D 58 A' i K' (p.take i)/\(∀b,D b->h3.next<=b/\b<h4.next)/\h3.next<=h4.next/\(∀b,b<h3.next->b≠h2.next->h4.get b=h3.get b),n,⟨0,η,0,λ_=>False,rfl,Nat.zero_le _,rfl,g3,ay.nil _ _ _ _,λb hb=>hb.elim,Nat.le_refl _,λ_ _ _=>rfl⟩,?_⟩;rintro m x h4 ⟨i,A',K',D,rfl,hi,rfl,b4,o4,hD,hz4,q4⟩;have k04:Nw h h4:=⟨U,λb hb=>(q4 b U U).trans (((k1.trans k2).trans k3).get b hb)⟩;refine⟨λhlt=>?_,λhge=>?_⟩
 .have hil:i<n:=U;obtain⟨b,o,A3,n3,K3,row,hA,-,-,hr,e0,s0⟩:=(hs.nw k04).row (k:=i) hil;have hrl:=hm row (List.mem_of_getElem? hr);have w1:IntKind.i64.wrap ((i:Int)+1)=((i+1:Nat):Int):=by rw[Int.natCast_succ];exact ae U U
  refine⟨i,rfl,b,o,hA,hil,_,_,_,e0,_,_,_,aa b4 rfl,yQ s0 (by rw[<-s0.len];exact hrl) λA5 K5 h5 s5 k5=>⟨_,_,_,rfl,aa (k5.bk U b4) rfl,o4.spot,λh6 e6=>?_⟩⟩;obtain⟨k6,g6,z6⟩:=aj e6;have z5:=k5.next;have hz:Sz aM (λb=>h4.next<=b/\b<h6.next) h6 (ψ ⟨h5.next,0,η⟩) 1 2 [row]:=Sz.one g6 ⟨U,U⟩ U rfl ⟨A5,n3,K5,rfl,(s5.nw k6).mono λb hb hlt=>⟨hb,hlt⟩⟩;obtain⟨A6,K6,h7,y1,y2,y3,y4⟩:=gQ (r:=aM) (bytes:=24) Jz (o4.nw (k5.trans k6)) hz (λb hb ho=>by have:=(hD b (o4.lt ho).1).2;omega) U U;have z7:=y3.next;have b7:Bk h7 h2.next [Y A' i K'] 207:=y3.bk U (λho=>by have:=(hD _ (o4.lt ho).1).1;omega) ((k5.trans k6).bk U b4);obtain⟨h8,s8,b8,z8,o8⟩:=ax (v:=Y A6 (i+1) K6) b7 (o:=0) (by simp) rfl;refine⟨A6,i+1,K6,h7,y1,h8,s8,_,w1,n - (i+1),U,i+1,A6,K6,λb=>(D b\/(h4.next<=b/\b<h6.next)\/b=h6.next)/\b<h7.next,rfl,hil,rfl,b8,?_,λb hb=>?_,U,λb hb hne=>(o8 b hne).trans ((y3.get b U (λho=>by have:=(hD _ (o4.lt ho).1).1;omega)).trans (((k5.trans k6).get b U).trans (q4 b hb hne)))⟩
  .rw[List.take_add_one,hr];exact(y2.mono (D':=λb=>(D b\/(h4.next<=b/\b<h6.next)\/b=h6.next)/\b<h7.next) λb hb hlt=>⟨hb,hlt⟩).keep (λb hb _=>o8 b (by
    rcases hb.1 with h9 | h9 | h9
    .have:=(hD b h9).1;omega
    .omega
    .omega)) U
  .rcases hb.1 with h9 | h9 | h9
   .have:=hD b h9;omega
   .omega
   .omega
 .obtain rfl:i=n:=U;rw[List.take_of_length_le U]at o4;have b1:Bk h4 h1.next [Y η 0 0] 207:=(q4 _ U U).trans (k3.bk U g2);obtain⟨h9,s9,b9,z9,o9⟩:=ax (v:=Y A' i K') b1 (o:=0) (by simp) rfl;refine⟨_,_,_,fK (aa b4 rfl),h9,s9,_,_,_,fK (aa b9 rfl),hK A' K' h9 ((o4.sa.keep (λb hb _=>o9 b (by have:=(hD b hb).1;omega)) U).mono λb hb _=>by have:=(hD b hb).1;omega) ⟨U,λb hb=>(o9 b U).trans (k04.get b hb)⟩⟩
theorem Ha {o:Nat}{N:ab}(O:fE h F o N p) (hK:∀A' K' h',Sa aM (λb=>h.next<=b) h' A' p.length K' p->Nw h h'->Q (.agg #[Y A' p.length K']) h'):WC Tryz.prog 87 [ν (ψ ⟨o,0,η⟩)] h Q:=by
 refine nu λh1 e1=>?_;obtain⟨k1,g1,z1⟩:=aj e1;obtain⟨A,n,K,c0,s⟩:=(O.nw k1).part;have hn:=s.len;have hp6:=O.hp.few;have hnv:=O.hp.nv_;refine⟨o,0,rfl,A,n,K,fK c0,G6 s U (λx hx=>by have:=O.hp.rows x hx;omega) λA' K' h2 s2 k2=>⟨_,_,_,rfl,?_⟩⟩;have b2:=k2.bk U g1;obtain⟨h3,s3,b3,z3,o3⟩:=ax (v:=Y A' n K') b2 (o:=0) (by simp) rfl;have z2:=k2.next;refine⟨h3,s3,_,_,_,fK (aa b3 rfl),?_⟩;have hh:=hK A' K' h3 (by rw[hn];exact(s2.keep (λb hb _=>o3 b U) U).mono λb hb _=>U) ⟨U,λb hb=>(o3 b U).trans ((k1.trans k2).get b hb)⟩
 rwa [hn]at hh
end
end Eva
end
section
open Go Go.RowKit
section
variable {N:ab}{p:List (List Int)}{costs:List Int}{s t a:Nat}
theorem vd {ent:Nat->Nat->Nat->Int}{lev:Nat->Nat}{b y:Nat}:N.lp p ent lev a b=ψ y↔a<N.na/\b<N.na/\N.inA p (lev (N.to a)) (aG p (lev (N.to a)) (N.to a)) a/\N.outA p (lev (N.to a)) (aG p (lev (N.to a)) (N.to a)) b/\ent (lev (N.to a)) a b<aT/\N.w b<aT/\y=(ent (lev (N.to a)) a b).toNat+(N.w b).toNat:=by
 unfold ab.lp
 split
 .rename_i h;simp only[Option.some.injEq];constructor
  .rintro rfl;exact⟨h.1,h.2.1,h.2.2.1,h.2.2.2.1,h.2.2.2.2.1,h.2.2.2.2.2,rfl⟩
  .rintro⟨_,_,_,_,_,_,rfl⟩;rfl
 .rename_i h;constructor
  .intro h';cases h'
  .rintro⟨h1,h2,h3,h4,h5,h6,_⟩;exact absurd ⟨h1,h2,h3,h4,h5,h6⟩ h
end
namespace Eva
def Ia (N:ab) (p:List (List Int)) (D:Nat->Prop) (h:AH) (l c:Nat) (v:Value):Prop:=
 ∃A K B L,v = .agg #[Y A (N.ins p l c).length K,.slice B (N.outs p l c).length L]/\Sa cI D h A (N.ins p l c).length K (ints (N.ins p l c))/\Sa cI D h B (N.outs p l c).length L (ints (N.outs p l c))
section
variable {h h' h0:AH}{Q:Value->AH->Prop}{Fa F Fo:Nat->Prop}{N:ab}{p:List (List Int)}{g o C s t q mp bf:Nat}{cA:Option Addr}{cK:Nat}{D:Nat->Prop}{a:Nat}
theorem JA:kf Tryz.prog 309 Lb:=by
 obtain⟨i,hi,hsz,-⟩:=bg dR;exact Jw (d:=.i64) Tryz.underlying309 Tryz.underlying3 hi hsz
theorem JB:∃i,Tryz.prog.info? 253=ψ i/\i.zero=ψ (.agg #[Y η 0 0,Y η 0 0]):=by
 obtain⟨i,hi,-⟩:=bg LM;refine⟨i,hi,?_⟩;have:(match Tryz.prog.info? 253 with | some i=>i.zero | none=>η)=ψ (.agg #[Y η 0 0,Y η 0 0]):=by kernel_rfl
 rw[hi]at this;exact this
theorem JC (O:fE h Fo o N p){k d:Nat}(hk:1<=k) (hkl:k<=p.length) (hd:d<au p k)
  (h1:∀h',a ∉ N.ins p k d\/N.outs p k d = []->Nw h h'->Q (ω ξ (-1)) h')
  (h2:∀h',a∈N.ins p k d->N.outs p k d≠[]->Nw h h'->Q (ω ξ ((N.start p k d+(N.ins p k d).idxOf a*(N.outs p k d).length:Nat):Int)) h') :
  WC Tryz.prog 59 [ν (ψ ⟨o,0,η⟩),ω ξ k,ω ξ d,ω ξ (cE (N.ins p k d) a),ω ξ 0] h Q:=by
 by_cases ha:a∈N.ins p k d
 .have hpl:cE (N.ins p k d) a=(((N.ins p k d).idxOf a:Nat):Int):=by unfold cE;rw[if_pos ha]
  rw[hpl];have hidx:=List.idxOf_lt_length_of_mem ha;by_cases he:N.outs p k d = []
  .obtain⟨k',rfl⟩:∃k',k=k' + 1:=⟨k - 1,U⟩;have h0:(N.outs p (k' + 1) d).length=0:=by rw[he];rfl
   have hp6:=O.hp.few;obtain⟨b1,o1,n1,K1,b2,o2,K2,A3,K3,A4,K4,c3,hkn,l1,e2,l2,e3,e4,s3,s4⟩:=O.gate_ (k:=k') U hd;rw[h0]at e4;refine cC (BT O U U hd ⟨_,rfl,λ_=>?_,λh=>Bool.noConfusion h⟩);refine⟨_,_,rfl,_,_,_,c3,_,ae U U,k',U,_,_,rfl,hkn,_,_,_,e2,d,rfl,_,_,rfl,hd,_,_,_,_,_,_,kT e3 e4,λh2 e7=>?_⟩;obtain⟨h3,hs3,k3,g3,z3⟩:=aD (vs:=[Y A3 (N.ins p (k' + 1) d).length K3,Y A4 0 K4]) e7 rfl (cR rfl rfl);exact⟨h3,hs3,λh=>absurd h U,λ_=>⟨_,_,_,aa g3 rfl,λh=>absurd h U,λ_=>⟨λh=>absurd h U,λ_=>⟨_,_,_,aa g3 rfl,λ_=>h1 _ (.inr he) k3,λh=>absurd (Int.le_refl _) h⟩⟩⟩⟩
  .have h0:0<(N.outs p k d).length:=by cases hx:N.outs p k d with | nil=>exact absurd hx he | cons x l=>simp
   refine KW O (j:=0) U U hd hidx h0 λh' k'=>?_;have:=h2 h' ha he k'
   rwa [Nat.add_zero]
 .have hpl:cE (N.ins p k d) a = -1:=by unfold cE;rw[if_neg ha]
  rw[hpl];obtain⟨k',rfl⟩:∃k',k=k' + 1:=⟨k - 1,U⟩;have hp6:=O.hp.few;obtain⟨b1,o1,n1,K1,b2,o2,K2,A3,K3,A4,K4,c3,hkn,l1,e2,l2,e3,e4,s3,s4⟩:=O.gate_ (k:=k') U hd;refine cC (BT O U U hd ⟨_,rfl,λ_=>?_,λh=>Bool.noConfusion h⟩);refine⟨_,_,rfl,_,_,_,c3,_,ae U U,k',U,_,_,rfl,hkn,_,_,_,e2,d,rfl,_,_,rfl,hd,_,_,_,_,_,_,kT e3 e4,λh2 e7=>?_⟩;obtain⟨h3,hs3,k3,g3,z3⟩:=aD (vs:=[Y A3 (N.ins p (k' + 1) d).length K3,Y A4 (N.outs p (k' + 1) d).length K4]) e7 rfl (cR rfl rfl);exact⟨h3,hs3,λ_=>h1 _ (.inl ha) k3,λh=>absurd (show(-1:Int)<0 by omega) h⟩
end
end Eva
end
section
open Go Go.RowKit
namespace Eva
theorem xe {xs:List Int}{ys:List Int}{i:Nat}{y:Int}(hy:ys[i]? = ψ y):(ys.take i ++ List.replicate (ys.length - i) 0).set i y=ys.take (i+1) ++ List.replicate (ys.length - (i+1)) 0:=by
 have hi:=(List.getElem?_eq_some_iff.1 hy).1;rw[List.set_append_right _ _ (by rw[List.length_take];omega),List.length_take,Nat.min_eq_left U,Nat.sub_self,show ys.length - i=(ys.length - (i+1))+1 by omega,List.replicate_succ,List.set_cons_zero,List.take_add_one,hy,List.append_assoc];rfl
section
variable {h h0:AH}{Q:Value->AH->Prop}{Fa F Fo:Nat->Prop}{N:ab}{p:List (List Int)}{g o C s t q mp bf:Nat}{cA:Option Addr}{cK:Nat}{D:Nat->Prop}{a l:Nat}{costs:List Int}
theorem Ca {h:AH}{E:Nat->Prop}{lo no:Nat}(bc:Bk h C (costs.map (Value.int .i64)) 2) (hC:C<h.next) (hE:E C) (hlo:lo+no<=costs.length) (K:Nat):Sa cI E h (ψ ⟨C,lo,η⟩) no K ((costs.drop lo).take no):=by
 refine⟨by rw[List.length_take,List.length_drop];omega,.inr ⟨_,_,rfl⟩,λ_=>⟨C,lo,rfl,hE,hC,λk x hk=>⟨[ω ξ x],λj u hu=>?_,rfl⟩⟩⟩;rw[List.getElem?_take]at hk
 split at hk
 .rw[List.getElem?_drop]at hk
  match j,hu with
  | 0,hu=>
   obtain rfl:=Option.some.inj hu;show ldC h C (lo+(k*1+0))=_;rw[aJ bc,Nat.mul_one,Nat.add_zero,List.getElem?_map,hk];rfl
 .cases hk
end
end Eva
end
section
open Go Go.RowKit
namespace Eva
section
variable {h h':AH}{Fa F Fp:Nat->Prop}{g:Nat}{N:ab}{p:List (List Int)}{Q:Value->AH->Prop}{A:Option Addr}{n K:Nat}
def xg (f:Nat->Nat) (i:Nat):List Int:=(List.range i).map λa=>((f a:Nat):Int)
theorem qY (f:Nat->Nat) (i:Nat):xg f (i+1)=xg f i ++ [((f i:Nat):Int)]:=by
 unfold xg;rw[List.range_succ,List.map_append];rfl
theorem xh (N:ab) (p:List (List Int)) (k:Nat):(N.startsL p k).length=au p k:=by simp[ab.startsL]
theorem Ep (G:gS h Fa F g N) (hp:aP N.nv p) (hs:Sa aM Fp h A n K p) (hfew:N.size p<=10000000)
  (hK:∀o h',fE h' (λb=>h.next<=b) o N p->Nw h h'->Q (.tuple #[ν (ψ ⟨o,0,η⟩),.nilIface]) h'):WC Tryz.prog 117 [ν (ψ ⟨g,0,η⟩),.agg #[Y A n K]] h Q:=by
 have hn:=hs.len;have h6:=hp.few;have hna:=G.few.2;have hnv:=G.few.1;refine yw λh1 e1=>?_;obtain⟨k1,g1,z1⟩:=aj e1;have box:∀{h'},Nw h1 h'->aB h' h.next 0 1=ψ [Y A n K]:=λa=>fK (aa (a.bk U g1) rfl);refine⟨A,n,K,box (Nw.refl _),DY (G.nw k1) ⟨_,rfl,box (Nw.refl _),Ef hs.eqok,qU (hs.nw k1) hp λh3 k3=>⟨η,rfl,λ_=>⟨A,n,K,box k3,A,n,K,box k3,?_⟩,λt u h=>by cases h⟩⟩⟩;refine G6 (hs.nw (k1.trans k3)) U (λx hx=>by rw[hp.rows x hx];omega) λA5 K5 h4 s4 k4=>⟨_,_,_,rfl,box (k3.trans k4),Ef hs.eqok,?_⟩;have k14:=k3.trans k4;refine F4 (G.nw (k1.trans k14)) hp (hs.nw (k1.trans k14)) λA6 n6 K6 h5 s5 k5=>⟨_,_,_,rfl,λh6' e6=>?_⟩;obtain⟨k6,g6,z6⟩:=aj e6;have k16:=(k14.trans k5).trans k6;have z3:=k3.next;have z4:=k4.next;have z5:=k5.next;have hn6:n6=p.length:=by have:=s5.len;simpa using this.symm
 refine tm (G.nw (k1.trans k16)) ⟨_,rfl,λm x h8=>∃(i:Nat) (A1:Option Addr) (K1:Nat) (A2:Option Addr) (K2:Nat),x=i/\i<=N.na/\m=N.na - i/\Bk h8 h5.next [Y A5 n K5,Y A1 i K1,Y A2 i K2,Y A6 n6 K6,Y η 0 0,ω ξ 0] 244/\
  ay cI h8 (ai A1) 3 A1 i K1 (xg N.fr i)/\ay cI h8 (ai A2) 3 A2 i K2 (xg N.to i)/\(∀z,ai A1 z->h6'.next<=z)/\(∀z,ai A2 z->h6'.next<=z)/\(∀z,ai A1 z->¬ai A2 z)/\Mt (λz=>z=h5.next) h6' h8,N.na,⟨0,η,0,η,0,rfl,Nat.zero_le _,rfl,g6,ay.nil _ _ _ _,ay.nil _ _ _ _,λz hz=>hz.elim,λz hz=>hz.elim,λz hz=>hz.elim,Mt.refl _ _⟩,?_⟩
 rintro m x h8 ⟨i,A1,K1,A2,K2,rfl,hi,hm,b8,o1,o2,lo1,lo2,dj,m8⟩;have z8:=m8.next;have G8:gS h8 Fa F g N:=(G.nw (k1.trans (k14.trans k5))).nw ((Mt.of k6).then m8 |>.is_nw (Nw.refl _) λz hz=>U);refine⟨λhlt=>?_,λhge=>?_⟩
 .have wi:IntKind.i64.wrap ((i:Int)+1)=((i+1:Nat):Int):=by rw[Int.natCast_succ];exact ae U U
  refine⟨_,_,_,aa b8 rfl,wR G8 U ⟨_,rfl,aa b8 rfl,o1.spot,λh10 e10=>?_⟩⟩;obtain⟨k10,g10,z10⟩:=aj e10;obtain⟨A1',K1',h11,y1,y2,y3,y4⟩:=bq fY dR (o1.nw k10) (Sz.one (r:=cI) (L:=2) (F:=λz=>z=h8.next) g10 rfl U rfl rfl) U U;have z11:=y3.next;have b11:=y3.bk U (λho=>by have:=lo1 _ ho;omega) (k10.bk U b8);obtain⟨h12,s12,b12,z12,q12⟩:=ax (v:=Y A1' (i+1) K1') b11 (o:=1) (by simp) rfl;have m12:Mt (λz=>z=h5.next) h11 h12:=⟨U,λz _ hn=>q12 z hn⟩;have lo1':∀z,ai A1' z->h6'.next<=z:=λz hz=>(y4 z hz).elim (lo1 z) (λh=>U);have o1':=y2.off m12 λz hz _ e=>by have:=lo1' z hz;omega
  have o2':=((o2.nw k10).off y3 λz hz _ ho=>dj z ho hz).off m12 λz hz _ e=>by have:=lo2 z hz;omega
  have m812:Mt (λz=>z=h5.next) h6' h12:=((m8.nw k10).trans y3 λz hz hlt=>by have:=lo1 z hz;omega).then m12;have G12:gS h12 Fa F g N:=(G.nw (k1.trans (k14.trans k5))).nw ((Mt.of k6).then m812 |>.is_nw (Nw.refl _) λz hz=>U);refine⟨A1',i+1,K1',h11,y1,h12,s12,_,_,_,aa b12 rfl,GX G12 U ⟨_,rfl,aa b12 rfl,o2'.spot,λh14 e14=>?_⟩⟩;obtain⟨k14',g14,z14⟩:=aj e14;obtain⟨A2',K2',h15,x1,x2,x3,x4⟩:=bq fY dR (o2'.nw k14') (Sz.one (r:=cI) (L:=2) (F:=λz=>z=h12.next) g14 rfl U rfl rfl) U U;have z15:=x3.next;have b15:=x3.bk U (λho=>by have:=lo2 _ ho;omega) (k14'.bk U b12);obtain⟨h16,s16,b16,z16,q16⟩:=ax (v:=Y A2' (i+1) K2') b15 (o:=2) (by simp) rfl;have m16:Mt (λz=>z=h5.next) h15 h16:=⟨U,λz _ hn=>q16 z hn⟩;have dj':∀z,ai A1' z->¬ai A2 z:=λz hz ho=>(y4 z hz).elim (λh=>dj z h ho) (λh=>by have:=o2.own ho;omega);refine⟨A2',i+1,K2',h15,x1,h16,s16,_,wi,N.na - (i+1),U,i+1,A1',K1',A2',K2',rfl,U,rfl,b16,?_,?_,lo1',λz hz=>(x4 z hz).elim (lo2 z) (λh=>U),λz hz ho=>(x4 z ho).elim (λh=>dj' z hz h) (λh=>by have:=o1'.own hz;omega),?_⟩
  .rw[qY];exact((o1'.nw k14').off x3 λz hz _ ho=>dj' z hz ho).off m16 λz hz _ e=>by have:=lo1' z hz;omega
  .rw[qY];exact x2.off m16 λz hz _ e=>(x4 z hz).elim (λh=>by have:=lo2 z h;omega) (λh=>U)
  .exact((m812.nw k14').trans x3 λz hz hlt=>by have:=lo2 z hz;omega).then m16
 .obtain rfl:i=N.na:=U;refine⟨A6,n6,K6,aa b8 rfl,λm x h17=>∃(k:Nat) (D:Nat->Prop) (A7:Option Addr) (K7:Nat),x=k/\k<=n6/\m=n6 - k/\Bk h17 h5.next [Y A5 n K5,Y A1 N.na K1,Y A2 N.na K2,Y A6 n6 K6,Y A7 k K7,ω ξ ((bR (N.lsz p) k:Nat):Int)] 244/\
   ay aM h17 D 58 A7 k K7 ((List.range k).map λj=>N.startsL p (j+1))/\(∀z,D z->h8.next<=z/\z<h17.next)/\Mt (λz=>z=h5.next) h8 h17,n6,⟨0,λ_=>False,η,0,rfl,Nat.zero_le _,rfl,by simpa[bR]using b8,ay.nil _ _ _ _,λz hz=>hz.elim,Mt.refl _ _⟩,?_⟩
  rintro m x h17 ⟨k,D,A7,K7,rfl,hk,hm,b17,o7,hD,m17⟩;have z17:=m17.next;have m617:=m8.then m17;have s617:Sa (Rc.slice Rc.gate) (λb=>h4.next<=b/\b<h5.next) h17 A6 n6 K6 ((List.range p.length).map λj=>N.gatesL p (j+1)):=((s5.mono λz hz hlt=>⟨hz,hlt⟩).nw k6).off m617 λz hz e=>U;refine⟨λhlt=>?_,λhge=>?_⟩
  .have hkl:k<p.length:=U;obtain⟨b1,p1,A12,n12,K12,x,hA,-,hb1,hx,e1',s12⟩:=s617.row (k:=k) U;have hx2:x=N.gatesL p (k+1):=by simp[hkl]at hx;exact hx.symm
   subst hx2;have hn12:au p (k+1)=n12:=by have:=s12.len;simpa[ab.gatesL]using this
   have hmf:=Af hp (k:=k+1) U U;have wk:IntKind.i64.wrap ((k:Int)+1)=((k+1:Nat):Int):=by rw[Int.natCast_succ];exact ae U U
   refine⟨k,rfl,b1,p1,hA,U,A12,n12,K12,e1',U,λh18 e18=>?_⟩;obtain⟨k18,g18,z18⟩:=aj e18;rw[aQ]at g18;obtain⟨ys,hys⟩:∃ys,N.startsL p (k+1)=ys:=⟨_,rfl⟩;have hyl:ys.length=n12:=by rw[<-hys,xh,hn12]
   have hst0:N.start p (k+1) 0=bR (N.lsz p) k:=by simp[ab.start,bR]
   refine⟨λm x h19=>∃c:Nat,x=c/\c<=n12/\m=n12 - c/\Bk h19 h17.next ((ys.take c ++ List.replicate (ys.length - c) 0).map (Value.int .i64)) 3/\Bk h19 h5.next [Y A5 n K5,Y A1 N.na K1,Y A2 N.na K2,Y A6 n6 K6,Y A7 k K7,ω ξ ((N.start p (k+1) c:Nat):Int)] 244/\Mt (λz=>z=h5.next) h17 h19/\h17.next<h19.next,n12,⟨0,rfl,Nat.zero_le _,rfl,?_,by rw[hst0];exact k18.bk U b17,Mt.of k18,U⟩,?_⟩
   .rw[List.take_zero,List.nil_append,hyl,Nat.sub_zero,List.map_replicate];exact g18
   rintro m' x h19 ⟨c,rfl,hc,hm',b19,a19,m19,lt19⟩;have z19:=m19.next;refine⟨λhlt'=>?_,λhge'=>?_⟩
   .have hc':c<au p (k+1):=U;obtain⟨b2,p2,A13,n13,K13,A14,n14,K14,u,v,hA12,hF2,hb2,hy,e2,e3,s13,s14⟩:=(s12.off m19 λz hz e=>U).gate (k:=c) U;have hy2:(u,v)=(ints (N.ins p (k+1) c),ints (N.outs p (k+1) c)):=by simp[ab.gatesL,hc']at hy;rw[<-hy.1,<-hy.2]
    injection hy2 with q1 q2;subst q1 q2;have q3:(N.ins p (k+1) c).length=n13:=by simpa[ints]using s13.len
    have q4:(N.outs p (k+1) c).length=n14:=by simpa[ints]using s14.len
    refine⟨c,rfl,b2,p2,hA12,U,A13,n13,K13,A14,n14,K14,kT e2 e3,λh20 e20=>?_⟩;obtain⟨h21,s21,k21,g21,z21⟩:=aD (vs:=[Y A13 n13 K13,Y A14 n14 K14]) e20 rfl (cR rfl rfl);have a21:=k21.bk U a19;have b21:=k21.bk U b19;obtain⟨h22,s22,b22,z22,q22⟩:=ax (v:=ω ξ ((N.start p (k+1) c:Nat):Int)) b21 (o:=0+c) (by simp;omega) rfl;have a22:=(q22 _ U).trans a21;have g22:=(q22 _ U).trans g21;have hse:=ab.start_end (N:=N) (k:=k+1) (c:=c) U U hc';have hsz:N.sz p (k+1) c=n13*n14:=by unfold ab.sz;rw[q3,q4]
    rw[hsz]at hse;obtain⟨t,ht⟩:∃t,n13*n14=t:=⟨_,rfl⟩;rw[ht]at hse hsz;have w1:IntKind.i64.wrap ((n13:Int)*(n14:Int))=(t:Int):=by rw[<-Int.natCast_mul,ht];exact ae U U
    have hnx:N.start p (k+1) (c+1)=N.start p (k+1) c+t:=by rw[ab.start_cell,hsz]
    have w2:IntKind.i64.wrap (((N.start p (k+1) c:Nat):Int)+(t:Int))=((N.start p (k+1) (c+1):Nat):Int):=by rw[hnx,Int.natCast_add];exact ae U U
    have wc:IntKind.i64.wrap ((c:Int)+1)=((c+1:Nat):Int):=by rw[Int.natCast_succ];exact ae U U
    obtain⟨h23,s23,b23,z23,q23⟩:=ax (v:=ω ξ ((N.start p (k+1) (c+1):Nat):Int)) a22 (o:=5) (by simp) rfl;refine⟨h21,s21,_,aa a21 rfl,U,h22,s22,_,aa a22 rfl,_,_,_,aa g22 rfl,_,_,_,aa g22 rfl,_,w1,_,w2,h23,s23,_,wc,n12 - (c+1),U,c+1,rfl,U,rfl,?_,b23,?_,U⟩
    .rw[Nat.zero_add,<-List.map_set]at b22;have hyc:ys[c]? = ψ ((N.start p (k+1) c:Nat):Int):=by rw[<-hys];simp[ab.startsL,hc']
     have hps:=xe (xs:=ys) hyc;rw[hps]at b22;exact(q23 _ U).trans b22
    .exact⟨U,λz hz hn=>(q23 z hn).trans ((q22 z U).trans ((k21.get z U).trans (m19.get z hz hn)))⟩
   .obtain rfl:c=n12:=U;rw[List.take_of_length_le U,hyl,Nat.sub_self,List.replicate_zero,List.append_nil]at b19;refine⟨_,_,_,aa a19 rfl,λh24 e24=>?_⟩;obtain⟨k24,g24,z24⟩:=aj e24;have o19:=(o7.off m19 λz hz _ e=>by have:=(hD z hz).1;omega).nw k24;have hz:Sz aM (λz=>z=h17.next\/z=h19.next) h24 (ψ ⟨h19.next,0,η⟩) 1 2 [ys]:=Sz.one g24 (.inr rfl) U rfl ⟨ψ ⟨h17.next,0,η⟩,c,cx c,rfl,Sa.of_ints (k24.bk U b19) hyl (.inl rfl) U⟩;obtain⟨A18,K18,h25,y1,y2,y3,y4⟩:=gQ (r:=aM) (bytes:=24) Jz o19 hz (λb hb ho=>by have:=(hD b (o7.lt ho).1).2;omega) U U;have z25:=y3.next;have nO:¬ai A7 h5.next:=λho=>by have:=(hD _ (o7.lt ho).1).1;omega
    have b25:=y3.bk U nO (k24.bk U a19);obtain⟨h26,s26,b26,z26,q26⟩:=ax (v:=Y A18 (k+1) K18) b25 (o:=4) (by simp) rfl;have hse:N.start p (k+1) c=bR (N.lsz p) (k+1):=by
     rw[<-hn12];unfold ab.start;rw[Nat.add_sub_cancel];rfl
    refine⟨A18,k+1,K18,h25,y1,h26,s26,_,wk,n6 - (k+1),U,k+1,λz=>(D z\/(z=h17.next\/z=h19.next)\/z=h24.next)/\z<h25.next,A18,K18,rfl,U,rfl,by rw[<-hse];exact b26,?_,λz hz=>?_,?_⟩
    .rw[List.range_succ,List.map_append,List.map_singleton,hys];refine(y2.mono (D':=λz=>(D z\/(z=h17.next\/z=h19.next)\/z=h24.next)/\z<h25.next) λz hz hlt=>⟨hz,hlt⟩).keep (λz hz _=>q26 z ?_) U;rcases hz.1 with h9 | h9 | h9
     .have:=(hD z h9).1;omega
     .omega
     .omega
    .rcases hz.1 with h9 | h9 | h9
     .have:=hD z h9;omega
     .omega
     .omega
    .exact((m17.then m19).nw k24).trans y3 (λz hz hlt=>by have:=(hD z (o7.lt hz).1).1;omega) |>.then ⟨U,λz _ hn=>q26 z hn⟩
  .obtain rfl:k=n6:=U;subst hn6;have k117:Nw h1 h17:=((Mt.of k6).then m617).is_nw (k14.trans k5) λz hz=>U;have kk:=k1.trans k117;have z117:=k117.next;refine hK h5.next h17 ⟨⟨U,U⟩,⟨_,_,_,aa b17 rfl,?_⟩,⟨_,_,_,aa b17 rfl,?_⟩,⟨_,_,_,aa b17 rfl,?_⟩,⟨_,_,_,aa b17 rfl,s617.mono λz hz _=>U⟩,⟨_,_,_,aa b17 rfl,o7.sa.mono λz hz _=>by have:=(hD z hz).1;omega⟩,aa b17 rfl,hp,hfew,G.ok,⟨hnv,hna⟩⟩ kk
   .exact((((s4.mono λz hz hlt=>(⟨hz,hlt⟩:h3.next<=z/\z<h4.next)).nw (k5.trans k6)).off m617 λz hz e=>U)).mono λz hz _=>U
   .exact(o1.sa.off m17 λz hz e=>by have:=lo1 z hz;omega).mono λz hz _=>by have:=lo1 z hz;omega
   .exact(o2.sa.off m17 λz hz e=>by have:=lo2 z hz;omega).mono λz hz _=>by have:=lo2 z hz;omega
end
end Eva
end
section
open Go Go.RowKit
theorem xi (f g:Nat->Nat):∀n,bR (λi=>f i+g i) n=bR f n+bR g n
 | 0=>rfl
 | n+1=>by
  show bR (λi=>f i+g i) n+(f n+g n)=bR f n+f n+(bR g n+g n);rw[xi f g n];omega
theorem tC {f:Nat->Bool}{c0:Nat}(h:∀c,f c=true->c=c0):∀n,bR (λc=>if f c then 1 else 0) n<=if c0<n then 1 else 0
 | 0=>by simp[bR]
 | n+1=>by
  have ih:=tC h n;show bR (λc=>if f c then 1 else 0) n+(if f n then 1 else 0)<=_;by_cases e:f n=true
  .have:=h n e;subst this;rw[if_neg (Nat.lt_irrefl _)]at ih;simp[e];omega
  .simp[e];by_cases h1:c0<n
   .rw[if_pos h1]at ih;rw[if_pos U];simpa using ih
   .rw[if_neg h1]at ih;have:bR (λc=>if f c=true then 1 else 0) n<=0:=ih
    split <;>omega
theorem tD {f:Nat->Nat->Bool}{q:Nat->Nat}(h:∀c a,f c a=true->c=q a) (m:Nat):∀n,bR (λc=>(bU (f c) n).length) m<=n
 | 0=>by
  have:∀m,bR (λc=>(bU (f c) 0).length) m=0:=λm=>by
   induction m with
   | zero=>rfl
   | succ m ih=>show bR _ m+(bU (f m) 0).length=0;rw[ih];rfl
  rw[this];exact Nat.le_refl _
 | n+1=>by
  have e:(λc=>(bU (f c) (n+1)).length)=λc=>(bU (f c) n).length+if f c n then 1 else 0:=by
   funext c
   rw[it]
   split <;>simp
  rw[e,xi];have h1:=tD h m n;have h2:=tC (f:=λc=>f c n) (λc=>h c n) m;have h3:(if q n<m then 1 else 0)<=1:=by split <;>omega
  omega
theorem ml {N:ab}{p:List (List Int)}(hna:N.na<=300) (hp:p.length<=6):N.size p<1000000:=by
 have h1:∀j,N.lsz p j<=90000:=λj=>by
  unfold ab.lsz;have h2:∀m,bR (N.sz p (j+1)) m<=bR (λc=>(N.ins p (j+1) c).length) m*300:=λm=>by
   induction m with
   | zero=>simp[bR]
   | succ m ih=>
    show bR (N.sz p (j+1)) m+N.sz p (j+1) m<=(bR _ m+(N.ins p (j+1) m).length)*300;rw[Nat.add_mul];have:N.sz p (j+1) m<=(N.ins p (j+1) m).length*300:=Nat.mul_le_mul_left _ (Nat.le_trans (aL _ _) hna);omega
  have h3:bR (λc=>(N.ins p (j+1) c).length) (au p (j+1))<=N.na:=tD (f:=λc a=>N.insB p (j+1) c a) (q:=λa=>aG p (j+1) (N.to a)) (λc a h=>by simp[ab.insB]at h;exact h.1.symm) _ _;have h5:=h2 (au p (j+1));have h6:bR (λc=>(N.ins p (j+1) c).length) (au p (j+1))*300<=300*300:=Nat.mul_le_mul_right _ (Nat.le_trans h3 hna);exact Nat.le_trans h5 h6
 have h4:=FN h1 p.length;unfold ab.size;have:p.length*(90000)<=6*(90000):=Nat.mul_le_mul_right _ hp;omega
namespace Eva
section
variable {h h':AH}{F G:Nat->Prop}{Q:Value->AH->Prop}{A Av Aa At Ap:Option Addr}{n K nv Kv na Ka nt Kt np Kp:Nat}{N:ab}{p:List (List Int)}
theorem Eq (Z:jr h F Av nv Kv Aa na Ka At nt Kt N) (hf:yT N) (ok:N.Ok) (hK:∀g h' Fa Ft F,rV h' Fa Ft F g N->(∀z,Fa z\/Ft z\/F z->h.next<=z)->Nw h h'->Q (ν (ψ ⟨g,0,η⟩)) h') :
  WC Tryz.prog 52 [.agg #[Y Av nv Kv,Y Aa na Ka,Y At nt Kt]] h Q:=by
 have lv:=Z.vs.len;have la:=Z.xa.len;have lt:=Z.ts.len;obtain⟨f1,f2,f3,f4⟩:=hf;refine xQ λh1 e1=>?_;obtain⟨k1,g1,z1⟩:=aj e1;have Z1:=Z.nw k1;refine⟨_,_,_,_,_,_,_,_,_,bi (aa g1 rfl) (aa g1 rfl) (aa g1 rfl),KZ Z1.vs Z1.xa Z1.ts U U U (λt ht=>by have:=f4 t ht;omega) λA1 K1 A2 K2 A3 K3 h2 s1 s2 s3 k2=>⟨_,_,_,_,_,_,_,_,_,rfl,?_⟩⟩;have z2:=k2.next;exact BX s1 s2 s3 ok U λg h3 Fa Ft F' G lo k3=>⟨_,η,rfl,λ_=>hK g h3 Fa Ft F' G (λz hz=>by have:=lo z hz;omega) ((k1.trans k2).trans k3),λt u h=>by cases h⟩
theorem Gb (Z:jr h F Av nv Kv Aa na Ka At nt Kt N) (hf:yT N) (ok:N.Ok) (hs:Sz (Rc.sliceZ cI) G h Ap np Kp p) (hp:aP N.nv p) (hK:∀o h',fE h' (λz=>h.next<=z) o N p->Nw h h'->Q (ν (ψ ⟨o,0,η⟩)) h') :
  WC Tryz.prog 53 [.agg #[Y Av nv Kv,Y Aa na Ka,Y At nt Kt],.agg #[Y Ap np Kp]] h Q:=by
 have ln:=hs.len;have h6:=hp.few;have hnv:=hp.nv_;have hsz:=ml (N:=N) (p:=p) hf.2.1 h6;refine vo λh1 e1 h2 e2=>?_;obtain⟨k1,g1,z1⟩:=aj e1;obtain⟨k2,g2,z2⟩:=aj e2;have k12:=k1.trans k2;have g12:=k2.bk U g1;refine⟨_,_,_,_,_,_,_,_,_,bi (aa g12 rfl) (aa g12 rfl) (aa g12 rfl),Eq (Z.nw k12) hf ok λg h3 Fa Ft F' X3 lo k3=>⟨_,rfl,(λh=>by cases h),λ_=>⟨g,0,rfl,_,_,_,fK (aa (k3.bk U g2) rfl),?_⟩⟩⟩;have G3:=X3.gr;have k13:=k12.trans k3;refine Jo (hs.nw k13) U (λx hx=>by rw[hp.rows x hx];omega) λA' K' h4 s4 k4=>⟨_,_,_,rfl,?_⟩;have z4:=(k13.trans k4).next;refine Ep (G3.nw k4) hp s4 U λo h5 O k5=>⟨_,η,rfl,λ_=>hK o h5 ?_ ((k13.trans k4).trans k5),λt u h=>by cases h⟩;obtain⟨⟨w1,w2⟩,⟨a1,a2,a3,a4,a5⟩,⟨b1,b2,b3,b4,b5⟩,⟨c1,c2,c3,c4,c5⟩,⟨d1,d2,d3,d4,d5⟩,⟨e1,e2,e3,e4,e5⟩,q1,q2,q3,q4,q5⟩:=O;exact⟨⟨U,w2⟩,⟨a1,a2,a3,a4,a5.mono λz hz _=>U⟩,⟨b1,b2,b3,b4,b5.mono λz hz _=>U⟩,⟨c1,c2,c3,c4,c5.mono λz hz _=>U⟩,⟨d1,d2,d3,d4,d5.mono λz hz _=>U⟩,⟨e1,e2,e3,e4,e5.mono λz hz _=>U⟩,q1,q2,q3,q4,q5⟩
theorem JD {a b c:Value}(ha:lJ 5 a) (hb:lJ 5 b) (hc:lJ 5 c):bO (.agg #[a,b,c]):=by
 intro v hv;have hv':v=a\/v=b\/v=c:=by simpa using hv
 rcases hv' with rfl | rfl | rfl
 .exact ha
 .exact hb
 .exact hc
theorem Sz.ok5 {α:Type}{r:Rc α}{F:Nat->Prop}{xs:List α}(hs:Sz r F h A n K xs) (hn:0<n):lJ 5 (Y A n K):=by
 obtain⟨b,o,rfl,-⟩:=hs.at_ hn;rfl
theorem Ib {a:Value}(ha:lJ 5 a):bO (.agg #[a]):=by
 intro v hv;have hv':v=a:=by simpa using hv
 subst hv';exact ha
structure mo (h0 h:AH) (g o C:Nat) (costs:List Int) (N:ab) (p:List (List Int)):Prop where
 gr:∃Fa Ft F,rV h Fa Ft F g N/\(∀z,Fa z\/Ft z\/F z->h0.next<=z)/\∃Fo,fE h Fo o N p/\(∀z,Fo z->h0.next<=z/\¬Fa z/\¬Ft z)/\¬Fa C/\¬Ft C
 cs:Bk h C (costs.map (Value.int .i64)) 2
 cp:h0.next<=C/\C<h.next
 ok:cZ N p costs
 nn:∀x∈costs,0<=x
theorem fE.mono {o:Nat}{Fo Fo':Nat->Prop}(O:fE h Fo o N p) (hF:∀z,Fo z->z<h.next->Fo' z):fE h Fo' o N p:=by
 obtain⟨⟨w1,w2⟩,⟨a1,a2,a3,a4,a5⟩,⟨b1,b2,b3,b4,b5⟩,⟨c1,c2,c3,c4,c5⟩,⟨d1,d2,d3,d4,d5⟩,⟨e1,e2,e3,e4,e5⟩,q1,q2,q3,q4,q5⟩:=O;exact⟨⟨hF _ w1 w2,w2⟩,⟨a1,a2,a3,a4,a5.mono hF⟩,⟨b1,b2,b3,b4,b5.mono hF⟩,⟨c1,c2,c3,c4,c5.mono hF⟩,⟨d1,d2,d3,d4,d5.mono hF⟩,⟨e1,e2,e3,e4,e5.mono hF⟩,q1,q2,q3,q4,q5⟩
theorem rV.lt {g:Nat}{Fa Ft F:Nat->Prop}(X:rV h Fa Ft F g N):rV h (λz=>Fa z/\z<h.next) (λz=>Ft z/\z<h.next) (λz=>F z/\z<h.next) g N:=by
 obtain⟨o,⟨a1,a2,a3,a4,a5⟩,⟨b1,b2,b3,b4,b5⟩,⟨c1,c2,c3,c4,c5⟩,⟨d1,d2,d3,d4,d5⟩,⟨e1,e2,e3,e4,e5⟩,⟨f1,f2,f3,f4,f5⟩,ok,fw,dj⟩:=X;exact⟨⟨⟨o.1,o.2⟩,o.2⟩,⟨a1,a2,a3,a4,a5.mono λz hz hl=>⟨hz,hl⟩⟩,⟨b1,b2,b3,b4,b5.mono λz hz hl=>⟨hz,hl⟩⟩,⟨c1,c2,c3,c4,c5.mono λz hz hl=>⟨hz,hl⟩⟩,⟨d1,d2,d3,d4,d5.mono λz hz hl=>⟨hz,hl⟩⟩,⟨e1,e2,e3,e4,e5.mono λz hz hl=>⟨hz,hl⟩⟩,⟨f1,f2,f3,f4,f5.mono λz hz hl=>⟨hz,hl⟩⟩,ok,fw,λz=>⟨λhz=>⟨λh=>((dj z).1 hz.1).1 h.1,λh=>((dj z).1 hz.1).2 h.1⟩,λhz h=>(dj z).2 hz.1 h.1⟩⟩
theorem Er (Z:jr h F Av nv Kv Aa na Ka At nt Kt N) (hf:yT N) (ok:N.Ok) (hna:0<na) (hs:Sz (Rc.sliceZ cI) G h Ap np Kp p) (hp:aP N.nv p)
  (hK:∀g o C costs h',mo h h' g o C costs N p->Nw h h'->Q (.tuple #[ν (ψ ⟨g,0,η⟩),ν (ψ ⟨o,0,η⟩),Y (ψ ⟨C,0,η⟩) (N.size p) (cx (N.size p)),.bool true]) h') :
  WC Tryz.prog 23 [.agg #[Y Av nv Kv,Y Aa na Ka,Y At nt Kt],.agg #[Y Ap np Kp]] h Q:=by
 have lv:=Z.vs.len;have la:=Z.xa.len;have lt:=Z.ts.len;have ln:=hs.len;have h1p:=hp.some_;have hto:=ab.to_lt (N:=N) ok (a:=0) (by show 0<N.xa.length;omega);have hnv:0<nv:=by have:=hto.1;unfold ab.nv at this;omega
 have hnt:0<nt:=by
  have hv:N.vs[0]? = ψ (N.vs[0]' U):=List.getElem?_eq_getElem _;have:=ok.verts_ _ (List.mem_of_getElem? hv);omega
 have hsz:=ml (N:=N) (p:=p) hf.2.1 hp.few;refine rX λh1 e1 h2 e2=>?_;obtain⟨k1,g1,z1⟩:=aj e1;obtain⟨k2,g2,z2⟩:=aj e2;have k12:=k1.trans k2;have g12:=k2.bk U g1;have bN:∀{h'},Nw h2 h'->aB h' h.next 0 3=ψ [Y Av nv Kv,Y Aa na Ka,Y At nt Kt]:=λa=>bi (aa (a.bk U g12) rfl) (aa (a.bk U g12) rfl) (aa (a.bk U g12) rfl);have bP:∀{h'},Nw h2 h'->aB h' h1.next 0 1=ψ [Y Ap np Kp]:=λa=>fK (aa (a.bk U g2) rfl);refine⟨_,_,_,_,_,_,_,_,_,bN (Nw.refl _),_,_,_,_,_,_,_,_,_,bN (Nw.refl _),_,_,_,bP (Nw.refl _),Eq (Z.nw k12) hf ok λg h3 Fa Ft F' X3 lo k3=>⟨_,rfl,bP k3,Ib (hs.ok5 U),bN k3,JD (Z.vs.ok5 hnv) (Z.xa.ok5 hna) (Z.ts.ok5 hnt),?_⟩⟩;have k13:=k12.trans k3;refine Gb (Z.nw k13) hf ok (hs.nw k13) hp λo h4 O k4=>⟨_,rfl,(λh=>by cases h),λ_=>⟨g,0,rfl,(λh=>by cases h),λ_=>⟨o,0,rfl,?_⟩⟩⟩;have z4:=(k13.trans k4).next;have z12:=k12.next;have z13:=k13.next;have X3':=X3.lt;have z34:=k4.next;refine Lg (X3'.gr.nw k4) hf.2.1 O hsz λC costs h5 b5 c1 c2 hco hnn k5=>⟨_,_,_,rfl,hK g o C costs h5 ⟨⟨_,_,_,(X3'.nw k4).nw k5,λz hz=>?_,λz=>h3.next<=z,O.nw k5,λz hz=>⟨U,λh=>by have:=h.2;omega,λh=>by have:=h.2;omega⟩,λh=>by have:=h.2;omega,λh=>by have:=h.2;omega⟩,b5,⟨U,c2⟩,hco,hnn⟩ ((k13.trans k4).trans k5)⟩;have:=lo z (hz.elim (λh=>.inl h.1) λh=>.inr (h.elim (λh=>.inl h.1) λh=>.inr h.1));omega
end
end Eva
end
section
open Go Go.RowKit
namespace Eva
def Rc.chg:Rc eQ where
 size:=5
 rel:=λ_ _ cs x=>cs = [ω ξ x.1,ω ξ x.2.1,ω ξ x.2.2.1,ω ξ x.2.2.2.1,ω ξ x.2.2.2.2]
 len:=λh=>by rw[h];rfl
 flat:=λh u hu=>by rw[h]at hu;simp at hu;rcases hu with rfl | rfl | rfl | rfl | rfl <;>rfl
 keep:=λ_ _ h=>h
 mono:=λ_ h=>h
abbrev gm:Rc eQ:=Rc.chg
theorem Es:qN gm:=λh=>h
def go (x:eQ):List Value:=[ω ξ x.1,ω ξ x.2.1,ω ξ x.2.2.1,ω ξ x.2.2.2.1,ω ξ x.2.2.2.2]
def qZ (x:eQ):Value:=.agg #[ω ξ x.1,ω ξ x.2.1,ω ξ x.2.2.1,ω ξ x.2.2.2.1,ω ξ x.2.2.2.2]
theorem Ay (x:eQ):∀v∈go x,flat v=true:=by simp[go,flat]
section
variable {h h':AH}{F Fa:Nat->Prop}{Q:Value->AH->Prop}{A:Option Addr}{n K g:Nat}{N:ab}{xs:List eQ}{ts:List wH}
theorem Sz.chg (hs:Sz gm F h A n K xs){k:Nat}(hk:k<n):∃b o x,A=ψ ⟨b,o,η⟩/\F b/\b<h.next/\xs[k]? = ψ x/\(∀j u,(go x)[j]? = ψ u->ldC h b (o+k*5+j)=ψ u)/\aB h b (o+k*5) 5=ψ (go x):=by
 obtain⟨b,o,x,cs,hA,hF,hb,hx,hc,hr⟩:=hs.get hk;have hr':cs=go x:=hr;subst hr';have hc':∀j u,(go x)[j]? = ψ u->ldC h b (o+k*5+j)=ψ u:=λj u hj=>by
  have:=hc j u hj;simpa[Rc.chg,Nat.add_assoc]using this
 exact⟨b,o,x,hA,hF,hb,hx,hc',nR rfl (by decide) hc'⟩
theorem Et (c:Int) (hK:Q (.bool (aU c)) h):WC Tryz.prog 201 [ω ξ c] h Q:=by
 by_cases hc:aU c=true
 .exact jq hc (by rwa [hc]at hK)
 .have hf:aU c=false:=by simpa using hc
  rw[hf]at hK;unfold aU at hc;have hc':¬((0<=c/\c<=2147483648)\/c=1152921504606846976):=by simpa using hc
  exact j7 ⟨λh1=>absurd h1 U,λh1=>⟨λh2=>⟨λh3=>absurd h3 U,λh3=>hK⟩,λh2=>hK⟩⟩
theorem Gc (x:eQ) (hs:Sa Rc.table F h A n K N.ts) (hK:∀h',Nw h h'->Q (.bool (decide (N.isTurn x))) h') :
  WC Tryz.prog 265 [Y A n K,qZ x] h Q:=by
 obtain⟨kd,at_,ci,co,w⟩:=x;have hln:=hs.len;refine qt λh1 e1=>?_;obtain⟨k1,g1,z1⟩:=aj e1;have no:∀{h'},Nw h h'->¬N.isTurn (kd,at_,ci,co,w)->Q (.bool false) h':=λa hn=>by have:=hK _ a;rwa [decide_eq_false hn]at this
 refine⟨_,aa g1 rfl,λ(hb:at_<0)=>no k1 λ⟨q,_⟩=>by simp only at q;omega,λ(hb:¬at_<0)=>⟨_,aa g1 rfl,λ(hb2:(n:Int)<=at_)=>no k1 λ⟨q,_⟩=>by simp only at q;omega,λ(hb2:¬(n:Int)<=at_)=>⟨_,aa g1 rfl,?_⟩⟩⟩;obtain⟨i,rfl⟩:∃i:Nat,at_=i:=⟨at_.toNat,U⟩;have hi:i<n:=U;obtain⟨b,o,u,v,A',n',K',zs,hA,hF,hlt,hx,l0,l1,l2,hs'⟩:=hs.table hi;have ht:N.tb ((i:Int)).toNat=(u,v,zs):=by simp[ab.tb,hx]
 have iff:N.isTurn (kd,(i:Int),ci,co,w)↔(0<=ci/\ci<u)/\(0<=co/\co<v):=by
  unfold ab.isTurn;simp only[ht];constructor
  .rintro⟨_,q⟩;exact q
  .intro q;exact⟨U,q⟩
 refine⟨i,rfl,b,o,hA,hi,u,v,A',n',K',wS ((k1.ldC hlt _).trans l0) ((k1.ldC hlt _).trans l1) ((k1.ldC hlt _).trans l2),λh2 e2=>?_⟩;obtain⟨h3,s3,k3,g3,z3⟩:=aD (vs:=[ω ξ u,ω ξ v,Y A' n' K']) e2 rfl (eR rfl rfl rfl);have k13:=k1.trans k3;have g13:=k3.bk U g1;refine⟨h3,s3,_,aa g13 rfl,λc1=>⟨_,aa g13 rfl,_,aa g3 rfl,λc2=>⟨_,aa g13 rfl,λc3=>⟨_,aa g13 rfl,_,aa g3 rfl,λc4=>?_,λc4=>?_⟩,λc3=>?_⟩,λc2=>?_⟩,λc1=>?_⟩
 .have:=hK _ k13;rwa [decide_eq_true (iff.2 ⟨⟨c1,c2⟩,c3,c4⟩)]at this
 .exact no k13 λq=>c4 (iff.1 q).2.2
 .exact no k13 λq=>c3 (iff.1 q).2.1
 .exact no k13 λq=>c2 (iff.1 q).1.2
 .exact no k13 λq=>c1 (iff.1 q).1.1
theorem Gd (G:gS h Fa F g N){F2:Nat->Prop}(x:eQ) (hs:Sa Rc.table F2 h A n K N.ts) (hK:∀h',Nw h h'->Q (ω ξ (N.wrong x)) h') :
  WC Tryz.prog 198 [ν (ψ ⟨g,0,η⟩),Y A n K,qZ x] h Q:=by
 obtain⟨kd,at_,ci,co,w⟩:=x;refine qs λh1 e1=>?_;obtain⟨k1,g1,z1⟩:=aj e1;have hlt1:h.next<h1.next:=U;have q:∀{h'}{v:Int},Nw h1 h'->N.wrong (kd,at_,ci,co,w)=v->Q (ω ξ v) h':=λa hv=>by have:=hK _ (k1.trans a);rwa [hv]at this
 have b:∀{h'},Nw h1 h'->Bk h' h.next (go (kd,at_,ci,co,w)) 160:=λa=>a.bk hlt1 g1;have wt:∀{h'},Nw h1 h'->(N.wrong (kd,at_,ci,co,w)=if aU w=true then 0 else 8)->LI h' h.next 4 λx20=>CB 201 [ω ξ x20] h' λb2 h4=>BS b2 (Q (ω ξ 0) h4) (Q (ω ξ 8) h4):=fun {h'} a hw=>
  ⟨w,aa (b a) rfl,Et w ⟨_,rfl,λhb=>q a (by rw[hw,if_pos hb]),λhb=>q a (by rw[hw,if_neg (by simp[hb])])⟩⟩
 have tl:∀{h'},Nw h1 h'->(kd=2->(¬N.isTurn (kd,at_,ci,co,w)->N.wrong (kd,at_,ci,co,w)=5)/\(N.isTurn (kd,at_,ci,co,w)->N.wrong (kd,at_,ci,co,w)=if aU w=true then 0 else 8))->(kd≠2->N.wrong (kd,at_,ci,co,w)=if aU w=true then 0 else 8)->
   LI h' h.next 0 λx14=>TS (x14=2) (∃x15 x16 x17 x18 x19,aB h' h.next 0 5=ψ [ω ξ x15,ω ξ x16,ω ξ x17,ω ξ x18,ω ξ x19]/\CB 265 [Y A n K,.agg #[ω ξ x15,ω ξ x16,ω ξ x17,ω ξ x18,ω ξ x19]] h' λb1 h3=>BS b1 (LI h3 h.next 4 λx20=>CB 201 [ω ξ x20] h3 λb2 h4=>BS b2 (Q (ω ξ 0) h4) (Q (ω ξ 8) h4)) (Q (ω ξ 5) h3)) (LI h' h.next 4 λx21=>CB 201 [ω ξ x21] h' λb3 h5=>BS b3 (Q (ω ξ 0) h5) (Q (ω ξ 8) h5)):=fun {h'} a h2 hn2=>
  ⟨kd,aa (b a) rfl,λc=>⟨kd,at_,ci,co,w,bo (o:=0) (n:=5) (b a) (by simp[go]),Gc (kd,at_,ci,co,w) (hs.nw (k1.trans a)) λh3 k3=>⟨_,rfl,λht=>wt (a.trans k3) ((h2 c).2 (of_decide_eq_true ht)),λht=>q (a.trans k3) ((h2 c).1 (of_decide_eq_false ht))⟩⟩,λc=>wt a (hn2 c)⟩
 have bs:¬(kd=1/\(ci≠0\/co≠0))->(kd=1\/kd=2)->LI h1 h.next 0 λx10=>TS (x10=1)
     (LI h1 h.next 1 λx11=>TS (x11<0) (Q (ω ξ 5) h1)
      (LI h1 h.next 1 λx12=>CI 27 [ν (ψ ⟨g,0,η⟩)] h1 λx13 h2=>ldC h2 h.next 1=ψ (ω ξ x12)/\TS (x13<=x12) (Q (ω ξ 5) h2)
       (LI h2 h.next 0 λx14=>TS (x14=2) (∃x15 x16 x17 x18 x19,aB h2 h.next 0 5=ψ [ω ξ x15,ω ξ x16,ω ξ x17,ω ξ x18,ω ξ x19]/\CB 265 [Y A n K,.agg #[ω ξ x15,ω ξ x16,ω ξ x17,ω ξ x18,ω ξ x19]] h2 λb1 h3=>BS b1 (LI h3 h.next 4 λx20=>CB 201 [ω ξ x20] h3 λb2 h4=>BS b2 (Q (ω ξ 0) h4) (Q (ω ξ 8) h4)) (Q (ω ξ 5) h3)) (LI h2 h.next 4 λx21=>CB 201 [ω ξ x21] h2 λb3 h5=>BS b3 (Q (ω ξ 0) h5) (Q (ω ξ 8) h5)))))
     (LI h1 h.next 0 λx14=>TS (x14=2) (∃x15 x16 x17 x18 x19,aB h1 h.next 0 5=ψ [ω ξ x15,ω ξ x16,ω ξ x17,ω ξ x18,ω ξ x19]/\CB 265 [Y A n K,.agg #[ω ξ x15,ω ξ x16,ω ξ x17,ω ξ x18,ω ξ x19]] h1 λb1 h3=>BS b1 (LI h3 h.next 4 λx20=>CB 201 [ω ξ x20] h3 λb2 h4=>BS b2 (Q (ω ξ 0) h4) (Q (ω ξ 8) h4)) (Q (ω ξ 5) h3)) (LI h1 h.next 4 λx21=>CB 201 [ω ξ x21] h1 λb3 h5=>BS b3 (Q (ω ξ 0) h5) (Q (ω ξ 8) h5))):=λhz hk=>by
  refine⟨kd,aa g1 rfl,λc=>⟨at_,aa g1 rfl,λc2=>q (Nw.refl _) ?_,λc2=>⟨at_,aa g1 rfl,tm (G.nw k1) ⟨_,rfl,aa g1 rfl,λc3=>q (Nw.refl _) ?_,λc3=>tl (Nw.refl _) (λh2=>absurd h2 U) λ_=>?_⟩⟩⟩,λc=>tl (Nw.refl _) (λh2=>⟨λht=>?_,λht=>?_⟩) λh2=>absurd hk U⟩
  .subst c;simp at hz;simp[ab.wrong,hz,c2]
  .subst c;simp at hz;simp[ab.wrong,hz,c3]
  .unfold ab.wrong;dsimp only;rw[if_neg U,if_neg hz,if_neg U,if_neg (by rintro⟨h,-⟩;omega)]
  .subst h2;simp[ab.wrong,ht]
  .subst h2;simp[ab.wrong,ht]
 have one:∀v,N.wrong (kd,at_,ci,co,w)=v->v=1->Q (ω ξ 1) h1:=λv hv e=>q (Nw.refl _) (by rw[hv,e]);refine⟨kd,aa g1 rfl,λc=>⟨kd,aa g1 rfl,λ_=>⟨ci,aa g1 rfl,λc2=>⟨co,aa g1 rfl,λc3=>bs (λhh=>U) (.inl c),λc3=>q (Nw.refl _) (by simp[ab.wrong,c,c2,c3])⟩,λc2=>q (Nw.refl _) (by simp[ab.wrong,c,c2])⟩,λc1=>absurd c c1⟩,
  λc=>⟨kd,aa g1 rfl,λc2=>⟨kd,aa g1 rfl,λc1=>absurd c1 c,λ_=>bs (λhh=>c hh.1) (.inr c2)⟩,λc2=>q (Nw.refl _) (by simp[ab.wrong,c,c2])⟩⟩
end
end Eva
end
section
open Go
namespace Eva
structure Hb (P:Program) (kt:TypeId) (f0 f1 f2 f3 f4:Field) (et e6:TypeId):Prop where
 u:P.underlying kt=ψ (.struct #[f0,f1,f2,f3,f4])
 st:P.stoodInHeld kt=false
 nm:f0.name≠ "_"/\f1.name≠ "_"/\f2.name≠ "_"/\f3.name≠ "_"/\f4.name≠ "_"
 ty:f0.type=et/\f1.type=et/\f2.type=et/\f3.type=et/\f4.type=e6
 off:f0.offset=0/\f1.offset=1/\f2.offset=2/\f3.offset=3/\f4.offset=4
theorem ve {P:Program}:av P program=ψ P:=rfl
set_option maxHeartbeats 1000000
theorem Ge {P:Program}{kt et e6:TypeId}{f0 f1 f2 f3 f4:Field}{d d6:IntKind}{i i6:TypeInfo}(H:Hb P kt f0 f1 f2 f3 f4 et e6) (he:P.underlying et=ψ (.int d)) (hi:P.info? et=ψ i) (he6:P.underlying e6=ψ (.int d6)) (hi6:P.info? e6=ψ i6):kf P kt qZ where
 pl:=λa=>by rfl
 eq:=λa b=>by
  obtain⟨a1,a2,a3,a4,a5⟩:=a;obtain⟨b1,b2,b3,b4,b5⟩:=b;obtain⟨hu,hst,⟨n0,n1,n2,n3,n4⟩,⟨t0,t1,t2,t3,t4⟩,⟨o0,o1,o2,o3,o4⟩⟩:=H;show av P (Op.equalIn (9999+1) kt (.agg #[ω ξ a1,ω ξ a2,ω ξ a3,ω ξ a4,ω ξ a5]) (.agg #[ω ξ b1,ω ξ b2,ω ξ b3,ω ξ b4,ω ξ b5]))=_;unfold Op.equalIn;rw[aC,cF hu];simp only[Option.bind_some];rw[aC,ve];simp only[Option.bind_some,hst,Bool.false_eq_true,if_false];have e0:av P (part et #[Value.int .i64 a1,ω ξ a2,ω ξ a3,ω ξ a4,ω ξ a5] 0)=ψ (ω ξ a1):=aE he hi _ _ rfl;have e1:av P (part et #[Value.int .i64 a1,ω ξ a2,ω ξ a3,ω ξ a4,ω ξ a5] 1)=ψ (ω ξ a2):=aE he hi _ _ rfl;have e2:av P (part et #[Value.int .i64 a1,ω ξ a2,ω ξ a3,ω ξ a4,ω ξ a5] 2)=ψ (ω ξ a3):=aE he hi _ _ rfl;have e3:av P (part et #[Value.int .i64 a1,ω ξ a2,ω ξ a3,ω ξ a4,ω ξ a5] 3)=ψ (ω ξ a4):=aE he hi _ _ rfl;have e4:av P (part e6 #[Value.int .i64 a1,ω ξ a2,ω ξ a3,ω ξ a4,ω ξ a5] 4)=ψ (ω ξ a5):=aE he6 hi6 _ _ rfl;have g0:av P (part et #[Value.int .i64 b1,ω ξ b2,ω ξ b3,ω ξ b4,ω ξ b5] 0)=ψ (ω ξ b1):=aE he hi _ _ rfl;have g1:av P (part et #[Value.int .i64 b1,ω ξ b2,ω ξ b3,ω ξ b4,ω ξ b5] 1)=ψ (ω ξ b2):=aE he hi _ _ rfl;have g2:av P (part et #[Value.int .i64 b1,ω ξ b2,ω ξ b3,ω ξ b4,ω ξ b5] 2)=ψ (ω ξ b3):=aE he hi _ _ rfl;have g3:av P (part et #[Value.int .i64 b1,ω ξ b2,ω ξ b3,ω ξ b4,ω ξ b5] 3)=ψ (ω ξ b4):=aE he hi _ _ rfl;have g4:av P (part e6 #[Value.int .i64 b1,ω ξ b2,ω ξ b3,ω ξ b4,ω ξ b5] 4)=ψ (ω ξ b5):=aE he6 hi6 _ _ rfl;have k:∀x y:Int,av P (Op.equalIn 9999 et (ω ξ x) (ω ξ y))=ψ (x == y):=λx y=>Jv he 9998 x y;have k6:∀x y:Int,av P (Op.equalIn 9999 e6 (ω ξ x) (ω ξ y))=ψ (x == y):=λx y=>Jv he6 9998 x y;rw[<-Array.forIn_toList];simp only[List.forIn_cons,List.forIn_nil];by_cases h1:a1=b1
  case neg=>simp[aC,bY,bm,n0,t0,o0,e0,g0,k,h1]
  subst h1;by_cases h2:a2=b2
  case neg=>simp[aC,bY,bm,n0,t0,o0,e0,g0,n1,t1,o1,e1,g1,k,h2]
  subst h2;by_cases h3:a3=b3
  case neg=>simp[aC,bY,bm,n0,t0,o0,e0,g0,n1,t1,o1,e1,g1,n2,t2,o2,e2,g2,k,h3]
  subst h3;by_cases h4:a4=b4
  case neg=>simp[aC,bY,bm,n0,t0,o0,e0,g0,n1,t1,o1,e1,g1,n2,t2,o2,e2,g2,n3,t3,o3,e3,g3,k,h4]
  subst h4;by_cases h5:a5=b5
  case neg=>simp[aC,bY,bm,n0,t0,o0,e0,g0,n1,t1,o1,e1,g1,n2,t2,o2,e2,g2,n3,t3,o3,e3,g3,n4,t4,o4,e4,g4,k,k6,h5]
  subst h5;simp[aC,bY,bm,n0,t0,o0,e0,g0,n1,t1,o1,e1,g1,n2,t2,o2,e2,g2,n3,t3,o3,e3,g3,n4,t4,o4,e4,g4,k,k6]
 chk:=λe a=>by
  obtain⟨hu,hst,⟨n0,n1,n2,n3,n4⟩,⟨t0,t1,t2,t3,t4⟩,⟨o0,o1,o2,o3,o4⟩⟩:=H;show(match av P (Instr.checkKey e (9999+1) kt (.agg #[ω ξ a.1,ω ξ a.2.1,ω ξ a.2.2.1,ω ξ a.2.2.2.1,ω ξ a.2.2.2.2])) with | some _=>true | none=>false)=true;have e0:av P (part et #[Value.int .i64 a.1,ω ξ a.2.1,ω ξ a.2.2.1,ω ξ a.2.2.2.1,ω ξ a.2.2.2.2] 0)=ψ (ω ξ a.1):=aE he hi _ _ rfl;have e1:av P (part et #[Value.int .i64 a.1,ω ξ a.2.1,ω ξ a.2.2.1,ω ξ a.2.2.2.1,ω ξ a.2.2.2.2] 1)=ψ (ω ξ a.2.1):=aE he hi _ _ rfl;have e2:av P (part et #[Value.int .i64 a.1,ω ξ a.2.1,ω ξ a.2.2.1,ω ξ a.2.2.2.1,ω ξ a.2.2.2.2] 2)=ψ (ω ξ a.2.2.1):=aE he hi _ _ rfl;have e3:av P (part et #[Value.int .i64 a.1,ω ξ a.2.1,ω ξ a.2.2.1,ω ξ a.2.2.2.1,ω ξ a.2.2.2.2] 3)=ψ (ω ξ a.2.2.2.1):=aE he hi _ _ rfl;have e4:av P (part e6 #[Value.int .i64 a.1,ω ξ a.2.1,ω ξ a.2.2.1,ω ξ a.2.2.2.1,ω ξ a.2.2.2.2] 4)=ψ (ω ξ a.2.2.2.2):=aE he6 hi6 _ _ rfl;have k:∀x:Int,av P (Instr.checkKey e 9999 et (ω ξ x))=ψ ():=λx=>F6 he e 9998 x;have k6:∀x:Int,av P (Instr.checkKey e 9999 e6 (ω ξ x))=ψ ():=λx=>F6 he6 e 9998 x;unfold Instr.checkKey;rw[aC,cF hu];simp only[Option.bind_some];rw[<-Array.forIn_toList];simp only[List.forIn_cons,List.forIn_nil];simp[aC,bY,bm,n0,t0,o0,n1,t1,o1,n2,t2,o2,n3,t3,o3,n4,t4,o4,e0,e1,e2,e3,e4,k,k6]
 bits:=λa=>by
  show Instr.sameBits 10000 (qZ a) (qZ a)=true;unfold Instr.sameBits qZ;simp[Instr.sameBits]
def mq (P:Program) (t:TypeId):List Field:=
 match P.underlying t with
 | some (.struct fs)=>fs.toList
 | _=>[]
theorem Eu {P:Program}{t:TypeId}{l:List Field}(h:mq P t=l) (hn:l≠[]):P.underlying t=ψ (.struct l.toArray):=by
 unfold mq at h
 split at h
 .rename_i fs hu;rw[hu,<-h]
 .exact absurd h.symm hn
theorem Gf {P:Program}{t et e6:TypeId}(h:(mq P t).map (λf=>(f.name != "_",f.type,f.offset)) = [(true,et,0),(true,et,1),(true,et,2),(true,et,3),(true,e6,4)]) (hst:P.stoodInHeld t=false):∃f0 f1 f2 f3 f4,Hb P t f0 f1 f2 f3 f4 et e6:=by
 obtain⟨l,hl⟩:∃l,mq P t=l:=⟨_,rfl⟩;rw[hl]at h;have hlen:l.length=5:=by have:=congrArg List.length h;simpa using this
 obtain⟨f0,f1,f2,f3,f4,rfl⟩:∃f0 f1 f2 f3 f4,l = [f0,f1,f2,f3,f4]:=by
  rcases l with _ | ⟨f0,_ | ⟨f1,_ | ⟨f2,_ | ⟨f3,_ | ⟨f4,_ | ⟨f5,l⟩⟩⟩⟩⟩⟩ <;>first | (simp at hlen;done) | exact⟨_,_,_,_,_,rfl⟩
 simp only[List.map_cons,List.map_nil,List.cons.injEq,Prod.mk.injEq,bne_iff_ne,ne_eq,and_true]at h;obtain⟨⟨n0,t0,o0⟩,⟨n1,t1,o1⟩,⟨n2,t2,o2⟩,⟨n3,t3,o3⟩,n4,t4,o4⟩:=h;exact⟨f0,f1,f2,f3,f4,Eu hl (by simp),hst,⟨n0,n1,n2,n3,n4⟩,⟨t0,t1,t2,t3,t4⟩,o0,o1,o2,o3,o4⟩
theorem JE:kf Tryz.prog 160 qZ:=by
 obtain⟨f0,f1,f2,f3,f4,H⟩:=Gf (P:=Tryz.prog) (t:=160) (et:=3) (e6:=2) (by kernel_rfl) (by kernel_rfl);obtain⟨i,hi,-⟩:=bg dR;obtain⟨i6,hi6,-⟩:=En;exact Ge (d:=.i64) (d6:=.i64) H Tryz.underlying3 hi Tryz.underlying2 hi6
end Eva
end
end Go.Proofs.YtaagdjkinbemcaaGreatDoor
