/-
Lemmas for TopAlone. No condition.
-/
import Derived.Test.YtaagdjkinbemcaaGreatDoorProg
import Derived.Test.YtaagdjkinbemcaaGreatDoorRo2
import Derived.Test.YtaagdjkinbemcaaGreatDoorSo1
import Derived.Shelf.SlSortCmp.QuietGrown
import Derived.Lib.Small
import Derived.Lib.Walk
import Derived.LoopN
namespace Go.Proofs.YtaagdjkinbemcaaGreatDoor
open _root_.Go.IntKind renaming i64->ω
open _root_.Go.Value renaming int->Y
open _root_.Option renaming none->ψ,some->ξ
set_option linter.unusedVariables false
set_option linter.unusedSimpArgs false
set_option linter.unusedSectionVars false
set_option linter.unnecessarySimpa false
open Go Go.RowKit Go.Shelf Go.Lib Go.Sort
theorem Gz (x:Int) (w:World):Calls Tryz.prog 147 #[Y ω x] w λe w'=>e = .returned (.bool false)/\w' = w:=by
 go_enter Tryz.func147,Tryz.ntmps147
 go_wp2
 go_ret
 exact⟨by simp,rfl⟩
theorem GA (x y:Int) (w:World):Calls Tryz.prog 76 #[Y ω x,Y ω y] w λe w'=>e = .returned (Y ω (Lib.compareInt x y))/\w' = w:=by
 go_enter Tryz.func76,Tryz.ntmps76
 go_wp2_with (go_at_call 147;refine(Gz _ _).mono ?_;rintro e w' ⟨rfl,hw⟩;rw[hw])
 all_goals (go_ret;refine⟨?_,rfl⟩;unfold Lib.compareInt;(repeat' split) <;>first | rfl | (exfalso;omega))
theorem Co (x:Int) (w:World):Calls Tryz.prog 209 #[Y ω x] w λe w'=>e = .returned (.bool false)/\w' = w:=by
 go_enter Tryz.func209,Tryz.ntmps209
 go_wp2
 go_ret
 exact⟨by simp,rfl⟩
theorem Cp (x y:Int) (w:World):Calls Tryz.prog 141 #[Y ω x,Y ω y] w λe w'=>e = .returned (Y ω (Lib.compareInt x y))/\w' = w:=by
 go_enter Tryz.func141,Tryz.ntmps141
 go_wp2_with (go_at_call 209;refine(Co _ _).mono ?_;rintro e w' ⟨rfl,hw⟩;rw[hw])
 all_goals (go_ret;refine⟨?_,rfl⟩;unfold Lib.compareInt;(repeat' split) <;>first | rfl | (exfalso;omega))
namespace Eva
theorem Lo (b c:Nat) (x y z:Int) (w:World) (h0:w.cell? ⟨b,0,ψ⟩=ξ (Y ω x)) (h1:w.cell? ⟨b,1,ψ⟩=ξ (Y ω y)) (h2:w.cell? ⟨b,2,ψ⟩=ξ (Y ω z)) :
  Calls Tryz.prog 140 #[.slice (ξ ⟨b,0,ψ⟩) 3 c] w λe w'=>e = .returned (Y ω (Gx x y z))/\w' = w:=by
 go_enter Tryz.func140,Tryz.ntmps140
 go_wp2
 refine wp_loop_rounds 4 ?_;rw[rounds_succ]
 go_wp2
 .rename_i hx;have hx:(x == 0)=false:=by simpa using hx
  go_ret
  exact⟨by simp[Gx,hx],rfl⟩
 rename_i hx;have hx:x=0:=by simpa using hx
 rw[rounds_succ]
 go_wp2
 .rename_i hy;have hy:(y == 0)=false:=by simpa using hy
  go_ret
  exact⟨by simp[Gx,hx,hy],rfl⟩
 rename_i hy;have hy:y=0:=by simpa using hy
 rw[rounds_succ]
 go_wp2
 .rename_i hz
  go_ret
  exact⟨by simp[Gx,hx,hy],rfl⟩
 rename_i hz;have hz:z=0:=by simpa using hz
 rw[rounds_succ]
 go_wp2
 go_ret
 exact⟨by simp[Gx,hx,hy,hz],rfl⟩
theorem St.same {P:Program}{σ:aH}{h:AH}{w:World}(hr:HR P σ h w){v v':Value}{e:Ending}(hv:VR σ v v') (he:e = .returned v'):∃v1 σ',e = .returned v1/\St P σ h w σ' h w/\VR σ' v v1:=⟨v',σ,he,St.refl hr,hv⟩
theorem eZ {σ:aH}{v:Value}{x:Int}(h:VR σ (Y ω x) v):v = Y ω x:=by
 cases h with
 | int=>rfl
theorem xI {σ:aH}{x y:Int}{args':Array Value}(ha:br σ [Y ω x,Y ω y] args'.toList):args' = #[Y ω x,Y ω y]:=by
 obtain⟨l⟩:=args';obtain⟨hlen,hval⟩:=ha
 match l,hlen with
 | [u,v],_=>rw[eZ (hval 0 _ u rfl rfl),eZ (hval 1 _ v rfl rfl)]
theorem GB:dI Tryz.prog xH:=by
 intro g args h v h' hc σ w args' hr ha;unfold xH at hc;cases h1:Nat.beq g 76 with
 | true=>
  rw[h1]at hc;obtain rfl:=Nat.eq_of_beq_eq_true h1;simp only[cond_true]at hc;unfold Gy at hc
  split at hc
  .obtain⟨rfl,rfl⟩:=Prod.mk.inj (Option.some.inj hc);rw[xI ha];refine(GA _ _ w).mono λe w' ⟨he,hw⟩=>?_;rw[hw];exact St.same hr (.int _ _) he
  .cases hc
 | false=>
 rw[h1]at hc;simp only[cond_false]at hc;cases h2:Nat.beq g 141 with
 | true=>
  rw[h2]at hc;obtain rfl:=Nat.eq_of_beq_eq_true h2;simp only[cond_true]at hc;unfold Gy at hc
  split at hc
  .obtain⟨rfl,rfl⟩:=Prod.mk.inj (Option.some.inj hc);rw[xI ha];refine(Cp _ _ w).mono λe w' ⟨he,hw⟩=>?_;rw[hw];exact St.same hr (.int _ _) he
  .cases hc
 | false=>
 rw[h2]at hc;simp only[cond_false]at hc;cases h3:Nat.beq g 140 with
 | false=>rw[h3]at hc;cases hc
 | true=>
  rw[h3]at hc;obtain rfl:=Nat.eq_of_beq_eq_true h3;simp only[cond_true]at hc;unfold LN at hc
  split at hc
  .rename_i b K
   split at hc
   .rename_i x y z e0 f0 hg;obtain⟨rfl,rfl⟩:=Prod.mk.inj (Option.some.inj hc);obtain⟨l'⟩:=args';obtain⟨hlen,hval⟩:=ha
    match l',hlen with
    | [v0],_=>
     have hv:=hval 0 _ v0 rfl rfl;obtain⟨b',c',rfl,hσ,hCR⟩:=nZ hv rfl;obtain⟨o',hob,hor⟩:=hr.obj b b' _ hσ hg;cases hor with
     | @cells _ cc _ _ f' hcell hfree hcap=>
      have at_:∀(j:Nat) (u:Int),([Value.int .i64 x,Y ω y,Y ω z]:List Value)[j]? = ξ (Y ω u)->w.cell? ⟨b',j,ψ⟩=ξ (Y ω u):=λj u hu=>by
       obtain⟨u',q1,q2⟩:=hcell j _ hu;rw[eZ q2]at q1;unfold World.cell?;simp only[hob];simp[q1]
      refine(Lo b' c' x y z w (at_ 0 x rfl) (at_ 1 y rfl) (at_ 2 z rfl)).mono λe w' ⟨he,hw⟩=>?_;rw[hw];exact St.same hr (.int _ _) he
   .cases hc
  .cases hc
def mD (a b:Int×Int×Int):Int:=Gx (Lib.compareInt b.2.2 a.2.2) (Lib.compareInt a.1 b.1) (Lib.compareInt a.2.1 b.2.1)
noncomputable section
def dN (P:Program) (call:mL) (ops:Array Oper) (l:List (Nat×List Nat)):Fr->AH->Option FH:=
 List.rec (motive:=λ_=>Fr->AH->Option FH) (λfr h=>ξ (fr,h)) (λp _ ih fr h=>match ops[p.1]? with
  | some o=>andThen ih (iW P call ops o fr h)
  | none=>ψ) l
def dK (ih:Fr->AH->Bool) (P:Program) (ops:Array Oper) (again:List Nat):Option FH->Bool
 | some (fr,h)=>cond (aV (cn P ops fr h) again) (ih fr h) false
 | none=>false
def dC (P:Program) (call:mL) (ops:Array Oper) (l:List (Nat×List Nat)):Fr->AH->Bool:=
 List.rec (motive:=λ_=>Fr->AH->Bool) (λfr h=>true) (λp _ ih fr h=>match ops[p.1]? with
  | some o=>dK ih P ops (zB ops fr o p.2) (iW P call ops o fr h)
  | none=>false) l
end
theorem zj {b c:Bool}(h:cond b c false=true):b=true/\c=true:=by cases b <;>simp_all
theorem xJ {P:Program}{call:mL}{ops:Array Oper}:∀(l:List (Nat×List Nat)) (fr:Fr) (h:AH),dC P call ops l fr h=true->drawn P call ops l fr h=dN P call ops l fr h
 | [],fr,h,_=>rfl
 | (j,ag) :: l,fr,h,hc=>by
  have hc':(match ops[j]? with
   | some o=>dK (dC P call ops l) P ops (zB ops fr o ag) (iW P call ops o fr h)
   | none=>false)=true:=hc
  show cw P call ops j ag (drawn P call ops l) fr h=(match ops[j]? with
   | some o=>andThen (dN P call ops l) (iW P call ops o fr h)
   | none=>ψ)
  unfold cw;cases ho:ops[j]? with
  | none=>rfl
  | some o=>
   rw[ho]at hc';simp only at hc'⊢;cases h1:iW P call ops o fr h with
   | none=>rfl
   | some r=>
    obtain⟨fr',h'⟩:=r;rw[h1]at hc';unfold dK at hc';obtain⟨c1,c2⟩:=zj hc';unfold sh andThen;simp only[c1,cond_true];exact xJ l fr' h' c2
noncomputable section
def sb:Code:=Tryz.f139.body.getD .skip
def IJ:Code:=match sb with
 | .seq a _=>a
 | _=>.skip
def Cq:Array Oper:=match sb with
 | .seq _ (.seq (.region _ ops _) _)=>ops
 | _=>#[]
theorem JZ:Tryz.f139.body=ξ (.seq IJ (.seq (.region 1 Cq true) .ret)):=by kernel_rfl
def IK (a1 a2 a3 b1 b2 b3:Int):Fr:=⟨22,frame 0 [.agg #[Y ω a1,Y ω a2,Y ω a3],.agg #[Y ω b1,Y ω b2,Y ω b3]] .nil⟩
def ss (a1 a2 a3 b1 b2 b3:Int):Fr×AH:=match code Tryz.prog 10 IJ (IK a1 a2 a3 b1 b2 b3) ⟨0,.nil⟩ with
 | some (_,r)=>r
 | none=>(⟨0,.nil⟩,⟨0,.nil⟩)
def It:List (Nat×List Nat):=(eK Tryz.prog Cq).getD []
theorem Iu:eK Tryz.prog Cq=ξ It:=by kernel_rfl
end
section
variable (a1 a2 a3 b1 b2 b3:Int)
theorem J0:code Tryz.prog 10 IJ (IK a1 a2 a3 b1 b2 b3) ⟨0,.nil⟩=ξ (.normal,ss a1 a2 a3 b1 b2 b3):=by kernel_rfl
theorem Lp:(dN Tryz.prog xH Cq It (ss a1 a2 a3 b1 b2 b3).1 (ss a1 a2 a3 b1 b2 b3).2).map (λr=>r.1.get 4)=ξ (ξ (Y ω (Gx (Lib.compareInt b3 a3) (Lib.compareInt a1 b1) (Lib.compareInt a2 b2)))):=by kernel_rfl
theorem Lq:dC Tryz.prog xH Cq It (ss a1 a2 a3 b1 b2 b3).1 (ss a1 a2 a3 b1 b2 b3).2=cond (cond (b2 == b2) (cond (a2 == a2) (cond (b1 == b1) (cond (a1 == a1) true false) false) false) false) (cond (cond (b2 == b2) (cond (a2 == a2) true false) false) true false) false:=by kernel_rfl
theorem Lr:dC Tryz.prog xH Cq It (ss a1 a2 a3 b1 b2 b3).1 (ss a1 a2 a3 b1 b2 b3).2=true:=by rw[Lq];simp
end
theorem Iv {a1 a2 a3 b1 b2 b3:Int}{r:Fr×AH}(hn:dN Tryz.prog xH Cq It (ss a1 a2 a3 b1 b2 b3).1 (ss a1 a2 a3 b1 b2 b3).2=ξ r) (σ:aH) (w:World) (a:Act) (Q:Exit->Act->World->Prop) (hr:HR Tryz.prog σ ⟨0,.nil⟩ w) (hA:AR σ (IK a1 a2 a3 b1 b2 b3) a)
  (hQ:∀x σ' a' w',Lt .ret x->St Tryz.prog σ ⟨0,.nil⟩ w σ' r.2 w'->AR σ' r.1 a'->Q x a' w'):(Code.seq IJ (.seq (.region 1 Cq true) .ret)).wp Tryz.prog Q a w:=by
 refine wp_seq (ij oe 10 _ _ _ .normal (ss a1 a2 a3 b1 b2 b3).1 (ss a1 a2 a3 b1 b2 b3).2 (J0 a1 a2 a3 b1 b2 b3) σ w a _ hr hA λx σ1 a1 w1 hx s1 hA1=>?_);cases x <;>first | exact hx.elim | skip
 show(Code.seq (.region 1 Cq true) .ret).wp _ Q a1 w1;obtain⟨r1,r2⟩:=r;refine wp_seq (gg oe GB s1.hr hA1 Iu ((xJ _ _ _ (Lr _ _ _ _ _ _)).trans hn) λσ2 a2 w2 s2 hA2=>?_);show Code.ret.wp _ Q a2 w2;exact wp_ret (hQ .ret σ2 a2 w2 trivial (s1.trans s2) hA2)
open Classical in
noncomputable def J7 (F:Fr) (r:Fr×AH):Code->Fr->AH->R:=λc fr h=>if c = .seq IJ (.seq (.region 1 Cq true) .ret)/\fr=F/\h=⟨0,.nil⟩ then ξ (.ret,r) else ψ
theorem Iw {a1 a2 a3 b1 b2 b3:Int}{r:Fr×AH}(hn:dN Tryz.prog xH Cq It (ss a1 a2 a3 b1 b2 b3).1 (ss a1 a2 a3 b1 b2 b3).2=ξ r):uo Tryz.prog (J7 (IK a1 a2 a3 b1 b2 b3) r):=by
 intro c fr h e frE hE hc;unfold J7 at hc
 split at hc
 .rename_i hq;obtain⟨rfl,rfl,rfl⟩:=hq;injection hc with hc;injection hc with h1 h2;subst h1 h2;exact λσ w a Q hr hA hQ=>Iv hn σ w a Q hr hA hQ
 .cases hc
theorem Cr {a1 a2 a3 b1 b2 b3 x:Int}{r:Fr×AH}(hg:r.1.get 4=ξ (Y ω x)):calls Tryz.prog (J7 (IK a1 a2 a3 b1 b2 b3) r) 139 [.agg #[Y ω a1,Y ω a2,Y ω a3],.agg #[Y ω b1,Y ω b2,Y ω b3]] ⟨0,.nil⟩=ξ (Y ω x,r.2):=by
 unfold calls;rw[Tryz.func139];simp only;unfold vI;rw[JZ];simp only;have e:J7 (IK a1 a2 a3 b1 b2 b3) r (.seq IJ (.seq (.region 1 Cq true) .ret)) ⟨Tryz.f139.ntmps,frame 0 [.agg #[Y ω a1,Y ω a2,Y ω a3],.agg #[Y ω b1,Y ω b2,Y ω b3]] .nil⟩ ⟨0,.nil⟩=ξ (.ret,r):=by
  unfold J7;rw[if_pos ⟨rfl,rfl,rfl⟩]
 rw[e,show Nat.ble _ Tryz.f139.ntmps=true from by kernel_rfl,cond_true];obtain⟨r1,r2⟩:=r;show ko r2 (iZ Tryz.prog r1 r2 Tryz.f139.results.toList)=_;rw[show Tryz.f139.results.toList = [.tmp 4] from by kernel_rfl];have hg:r1.get 4=ξ (Y ω x):=hg;simp only[iZ,hg,cv,Option.map,ko,one]
theorem zk (a b:Int×Int×Int) (W:World) (hH:W.cell? ⟨0,0,ψ⟩=ξ (.iface 284 (.agg #[.pointer (ξ ⟨7,53,ψ⟩)]))):Calls Tryz.prog 139 #[.agg (aX a).toArray,.agg (aX b).toArray] W λe w'=>e = .returned (Y ω (mD a b))/\∃q os',w' = grow (W.drewN q) os':=by
 obtain⟨a1,a2,a3⟩:=a;obtain⟨b1,b2,b3⟩:=b;have hk:=Lp a1 a2 a3 b1 b2 b3;cases hn:dN Tryz.prog xH Cq It (ss a1 a2 a3 b1 b2 b3).1 (ss a1 a2 a3 b1 b2 b3).2 with
 | none=>rw[hn]at hk;cases hk
 | some r=>
  rw[hn]at hk;have hg:=Option.some.inj hk;have hr:HR Tryz.prog ⟨λ_=>ψ,λ_=>0⟩ ⟨0,.nil⟩ W:=
   ⟨(λn b h=>by cases h),(λn b o h=>by cases h),(λn m b o p h=>by cases h),(λn _=>rfl),hH,λn o h=>by cases h⟩
  have hag:∀x y z:Int,VR ⟨λ_=>ψ,λ_=>0⟩ (.agg #[Y ω x,Y ω y,Y ω z]) (.agg #[Y ω x,Y ω y,Y ω z]):=λx y z=>cY rfl;refine(ew (Iw hn) _ _ _ _ _ (Cr hg) _ W #[.agg #[Y ω a1,Y ω a2,Y ω a3],.agg #[Y ω b1,Y ω b2,Y ω b3]] hr (by
   refine⟨rfl,λi u u' h1 h2=>?_⟩
   match i with
   | 0=>cases h1;cases h2;exact hag _ _ _
   | 1=>cases h1;cases h2;exact hag _ _ _
   | i+2=>cases h1)).mono ?_
  rintro e w' ⟨v',σ',rfl,st,hv⟩;refine⟨by rw[eZ hv];rfl,w'.drawn - W.drawn,w'.heap.extract W.heap.size w'.heap.size,?_⟩;have hh:w'.heap=W.heap ++ w'.heap.extract W.heap.size w'.heap.size:=by
   refine Array.ext_getElem? λi=>?_;by_cases hi:i<W.heap.size
   .rw[Array.getElem?_append_left hi];exact st.frame i hi λn h=>by cases h
   .rw[Array.getElem?_append_right U,Array.getElem?_extract];have:=st.size;by_cases h2:i<w'.heap.size
    .rw[if_pos U,show W.heap.size+(i - W.heap.size)=i by omega]
    .rw[if_neg U,Array.getElem?_eq_none U]
  obtain⟨hp,tp,dr,os,ou⟩:=w';have e1:=st.os;have e2:=st.tape;have e3:=st.output;simp only at e1 e2 e3 hh;unfold grow World.drewN;simp only;rw[<-hh];have:W.drawn+(dr - W.drawn)=dr:=by have:=e3.2;omega
  rw[this,<-e1,<-e2,<-e3.1]
end Eva
end Go.Proofs.YtaagdjkinbemcaaGreatDoor
