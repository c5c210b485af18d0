/-
Lemmas for TopEntries. No condition.
-/
import Derived.Test.YtaomlhopkfmheaaGreatDoorPb
import Derived.Below
import Derived.Test.YtaomlhopkfmheaaGreatDoorProg
import Derived.KernelRfl
namespace Go.Proofs.YtaomlhopkfmheaaGreatDoor
set_option linter.unusedVariables false
set_option linter.unusedSimpArgs false
set_option linter.unusedSectionVars false
set_option linter.unnecessarySimpa false
section
open Go Go.RowKit
namespace Eva
noncomputable section
def ofL (next:Nat):List (Nat×AO)->AH
 | []=>⟨next,.nil⟩
 | p :: l=>(ofL next l).put p.1 p.2
def frT:List (Nat×Value)->Tr Value
 | []=>.nil
 | p :: l=>(frT l).set p.1 (some p.2)
def frL (n:Nat) (l:List (Nat×Value)):Fr:=⟨n,frT l⟩
def wW:List (Value×Value×Nat)->List (Value×Value×Nat)->Bool
 | [],[]=>true
 | (k,v,b) :: l,(k',v',b') :: m=>cond (eqv 6 k k' && eqv 6 v v' && Nat.beq b b') (wW l m) false
 | _,_=>false
def CM:AO->AO->Bool
 | .cells c e f,.cells c' e' f'=>oE (eqv 6) c c' && Nat.beq e e' && (f == f')
 | .map es n,.map es' n'=>wW es es' && Nat.beq n n'
 | _,_=>false
def sD:Option Value->Option Value->Bool
 | none,none=>true
 | some u,some v=>eqv 6 u v
 | _,_=>false
def sE (x:Option AO) (o:AO):Bool:=
 match x with
 | some p=>CM p o
 | none=>false
def yR (k:Fr->AH->Option FH):R->Option FH
 | some (.normal,fr,h)=>k fr h
 | _=>none
def uo (P:Program) (N:Nat) (cs:List Code):Fr->AH->Option FH:=
 List.rec (motive:=λ_=>Fr->AH->Option FH) (λfr h=>some (fr,h)) (λc _ ih fr h=>yR ih (code P N c fr h)) cs
def br:Nat->Code->List Code×Code
 | 0,c=>([],c)
 | n+1,.seq a b=>(a :: (br n b).1,(br n b).2)
 | _+1,c=>([],c)
def uq (fr1:Fr) (next1:Nat) (keep:List (Nat×AO)):Option FH->Bool
 | some (fr,h)=>Nat.beq fr.n fr1.n && Nat.beq h.next next1 && aO (λt=>sD (fr.get t) (fr1.get t)) (List.range fr1.n) && aO (λp=>sE (h.get p.1) p.2) keep
 | none=>false
end
section
variable {P:Program}{σ:Ren}{w:World}
theorem jN:∀(n:Nat) (c:Code),(br n c).1.foldr Code.seq (br n c).2=c
 | 0,c=>rfl
 | n+1,c=>by
  unfold br
  cases c with
  | seq a b=>simp only[List.foldr_cons];rw[jN n b]
  | _=>rfl
theorem vK:∀(l m:List (Value×Value×Nat)),wW l m=true->l=m
 | [],[],_=>rfl
 | [],_ :: _,h=>by simp[wW]at h
 | _ :: _,[],h=>by simp[wW]at h
 | (k,v,b) :: l,(k',v',b') :: m,h=>by
  unfold wW at h
  obtain⟨h1,h2⟩:=dy h
  obtain⟨h3,h4⟩:=ak h1
  obtain⟨h5,h6⟩:=ak h3
  rw[fi 6 _ _ h5,fi 6 _ _ h6,aq h4,vK l m h2]
theorem AY {x y:AO}(h:CM x y=true):x=y:=by
 unfold CM at h
 split at h
 ·obtain⟨h1,h2⟩:=ak h
  obtain⟨h3,h4⟩:=ak h1
  rw[iu (fi 6) _ _ h3,aq h4,beq_iff_eq.1 h2]
 ·obtain⟨h1,h2⟩:=ak h
  rw[vK _ _ h1,aq h2]
 ·cases h
theorem sF {x y:Option Value}(h:sD x y=true):x=y:=by
 unfold sD at h
 split at h
 ·rfl
 ·rw[fi 6 _ _ h]
 ·cases h
theorem sG {x:Option AO}{o:AO}(h:sE x o=true):x=some o:=by
 unfold sE at h
 split at h
 ·rw[AY h]
 ·cases h
theorem mY (next:Nat):∀l,(ofL next l).next=next
 | []=>rfl
 | p :: l=>mY next l
theorem qM {next:Nat}:∀(l:List (Nat×AO)){n:Nat}{o:AO},(ofL next l).get n=some o->(n,o)∈l
 | [],n,o,h=>by cases h
 | p :: l,n,o,h=>by
  by_cases e:p.1=n
  ·subst e
   rw[ofL,AH.get_put]at h
   cases h;simp
  ·rw[ofL,AH.get_put_ne _ _ e]at h
   exact List.mem_cons_of_mem _ (qM l h)
theorem HR.let_go {h hk:AH}(hr:HR P σ h w) (hn:hk.next=h.next) (hle:∀n o,hk.get n=some o->h.get n=some o):HR P σ hk w:=
 ⟨λn b x=>by rw[hn];exact hr.lt n b x,λn b o x y=>hr.obj n b o x (hle n o y),λn m b o p x1 x2 y1 y2=>hr.inj n m b o p x1 x2 (hle n o y1) (hle m p y2),λn hx=>by
  cases hg:hk.get n with
  | none=>rfl
  | some o=>have:=hle n o hg;rw[hr.none n (by rw[<-hn];exact hx)]at this;cases this⟩
def Far (B:Nat) (σ:Ren):Prop:=∀n b,σ n=some b->B<=b
theorem St.far {h h':AH}{w':World}{σ':Ren}{B:Nat}(s:St P σ h w σ' h' w') (hf:Far B σ) (hB:B<=w.heap.size):Far B σ'/\Below B w w':=by
 refine⟨λn b hb=>?_,⟨s.os,s.tape,s.output,s.size,λb hb=>s.frame b (by omega) λn hn=>by have:=hf n b hn;omega⟩⟩
 cases hq:σ n with
 | none=>
  rcases(s.new n b hb hq).2 with y | ⟨m,y⟩
  ·omega
  ·exact hf m b y
 | some c=>
  have:=(s.ext n c hq).1
  rw[hb]at this;cases this
  exact hf n b hq
theorem mZ (hm:P.follows .mixedOrders=true){N:Nat}{rest:Code}{Q:Exit->Act->World->Prop}{frE:Fr}{hE:AH}:∀(cs:List Code){σ:Ren}{w:World}{fr:Fr}{h:AH}{a:Act},uo P N cs fr h=some (frE,hE)->
  HR P σ h w->AR σ fr a->(∀σ' a' w',St P σ h w σ' hE w'->AR σ' frE a'->rest.wp P Q a' w')->(cs.foldr Code.seq rest).wp P Q a w
 | [],σ,w,fr,h,a,hc,hr,hA,hQ=>by
  have:some (fr,h)=some (frE,hE):=hc
  cases this
  exact hQ σ a w (St.refl hr) hA
 | c :: cs,σ,w,fr,h,a,hc,hr,hA,hQ=>by
  have hc':yR (uo P N cs) (code P N c fr h)=some (frE,hE):=hc
  unfold yR at hc'
  split at hc'
  ·rename_i fr1 h1 he
   refine wp_seq (mS hm N c fr h .normal fr1 h1 he σ w a _ hr hA (λx σ1 a1 w1 hx hs hA1=>?_))
   cases x <;>first | exact hx.elim | skip
   exact mZ hm cs hc' hs.hr hA1 (λσ2 a2 w2 hs2 hA2=>hQ σ2 a2 w2 (hs.trans hs2) hA2)
  ·cases hc'
theorem jc (hm:P.follows .mixedOrders=true){N:Nat}{cs:List Code}{rest:Code}{Q:Exit->Act->World->Prop}{fr:Fr}{h:AH}{ts:List (Nat×Value)}{n next1:Nat}{keep:List (Nat×AO)}
  (hf:uq (frL n ts) next1 keep (uo P N cs fr h)=true) (hts:aO (λp=>Nat.blt p.1 n) ts=true){a:Act}(hr:HR P σ h w) (hA:AR σ fr a){B:Nat}(hfar:Far B σ) (hB:B<=w.heap.size)
  (hQ:∀σ' a' w',HR P σ' (ofL next1 keep) w'->AR σ' (frL n ts) a'->Far B σ'->Below B w w'->rest.wp P Q a' w'):(cs.foldr Code.seq rest).wp P Q a w:=by
 cases hrun:uo P N cs fr h with
 | none=>rw[hrun]at hf;cases hf
 | some fh=>
  obtain⟨frE,hE⟩:=fh
  rw[hrun]at hf
  have hf':(Nat.beq frE.n (frL n ts).n && Nat.beq hE.next next1 && aO (λt=>sD (frE.get t) ((frL n ts).get t)) (List.range (frL n ts).n) && aO (λp=>sE (hE.get p.1) p.2) keep)=true:=hf
  obtain⟨h1,h4⟩:=ak hf'
  obtain⟨h1,h3⟩:=ak h1
  obtain⟨h1,h2⟩:=ak h1
  have h1:=aq h1;have h2:=aq h2
  refine mZ hm cs hrun hr hA (λσ' a' w' hs hA'=>?_)
  obtain⟨f1,f2⟩:=hs.far hfar hB
  refine hQ σ' a' w' (hs.hr.let_go ((mY _ _).trans h2.symm) λm o hm=>?_) ⟨h1.symm.trans hA'.n,hA'.d,λt _=>?_⟩ f1 f2
  ·exact sG (aQ h4 (m,o) (qM keep hm))
  ·by_cases ht:t<n
   ·have:=sF (aQ h3 t (List.mem_range.2 ht))
    unfold TR
    rw[<-this]
    exact hA'.t t (λx=>x)
   ·have hn:(frL n ts).get t=none:=by
     have:∀l:List (Nat×Value),aO (λp=>Nat.blt p.1 n) l=true->(frT l).get t=none:=by
      intro l
      induction l with
      | nil=>intro _;rfl
      | cons p l ih=>
       intro hl
       have h5:=cW (aQ hl p (by simp))
       have h6:aO (λp=>Nat.blt p.1 n) l=true:=ma λx hx=>aQ hl x (by simp[hx])
       rw[frT,Tr.get_set_ne _ _ (by omega)]
       exact ih h6
     exact this ts hts
    unfold TR
    rw[hn]
    have hsz:a'.tmps.size=n:=by rw[<-hA'.n,h1];rfl
    rw[Array.getD_eq_getD_getElem?,Array.getElem?_eq_none (by omega)]
    exact bT σ'
end
end Eva
end
section
open Go Go.RowKit
namespace Eva
noncomputable section
def fj:Code->Array Oper
 | .seq (.region _ ops _) _=>ops
 | _=>#[]
def uu:Code->Code
 | .seq _ b=>b
 | c=>c
def vL:Code->Bool
 | .seq (.region _ _ false) _=>true
 | _=>false
def DJ:Code->Nat
 | .seq (.region id _ _) _=>id
 | _=>0
end
section
variable {P:Program}{σ:Ren}{w:World}
theorem CN {c:Code}(h:vL c=true):c = .seq (.region (DJ c) (fj c) false) (uu c):=by
 unfold vL at h
 split at h
 ·rfl
 ·cases h
theorem nd {call:Rec}(hcall:dm P call){ops:Array Oper}{Q:Exit->Act->World->Prop}{more:List Nat}:∀(l:List Nat) (os:List Oper){σ:Ren}{w:World}{a:Act}{fr fr':Fr}{h h':AH},
  l.map (λi=>ops[i]?)=os.map some->HR P σ h w->AR σ fr a->ee P call ops os fr h=some (fr',h')->
  (∀σ' a' w',St P σ h w σ' h' w'->AR σ' fr' a'->wpOps P ops Q more a' w')->wpOps P ops Q (l ++ more) a w
 | [],os,σ,w,a,fr,fr',h,h',hl,hr,hA,ho,hQ=>by
  have:os = []:=by cases os <;>simp_all
  subst this
  have ho':some (fr,h)=some (fr',h'):=ho
  cases ho'
  exact hQ σ a w (St.refl hr) hA
 | i :: l,os,σ,w,a,fr,fr',h,h',hl,hr,hA,ho,hQ=>by
  cases os with
  | nil=>simp at hl
  | cons o os=>
   simp only[List.map_cons,List.cons.injEq]at hl
   obtain⟨hi,hl⟩:=hl
   have ho':ip (ee P call ops os) (op1 P call ops o fr h)=some (fr',h'):=ho
   cases h1:op1 P call ops o fr h with
   | none=>rw[h1]at ho';cases ho'
   | some fh=>
    obtain⟨fr1,h1'⟩:=fh
    rw[h1]at ho'
    have ho2:ee P call ops os fr1 h1' = some (fr',h'):=ho'
    have hT:∀t∈o.looksAt ops,TR σ fr a t:=λt _=>hA.t t (λx=>x)
    have hw:=lZ (ops:=ops) (o:=o) hT
    simp only[List.cons_append,wpOps,hi]
    unfold op1 at h1
    cases hwant:cS ops fr o with
    | false=>
     rw[hwant]at h1 hw
     simp only[cond_false]at h1
     cases h1
     simp only[hw,Bool.false_eq_true,if_false]
     exact nd hcall l os hl hr (hA.put (bT σ)) ho2 hQ
    | true=>
     rw[hwant]at h1 hw
     simp only[cond_true]at h1
     obtain⟨hc,h2⟩:=ae h1
     simp only[hw,if_true]
     refine .inl (ky hcall hr (qF hc hT) h2 ?_)
     rintro v v' w' σ' rfl hs hv
     exact nd hcall l os hl hs.hr ((hA.mono hs.ext).put hv) ho2 (λσ2 a2 w2 hs2 hA2=>hQ σ2 a2 w2 (hs.trans hs2) hA2)
theorem yS {fr:Fr}{h:AH}{ts:List (Nat×Value)}{n next1:Nat}{keep:List (Nat×AO)}(hf:uq (frL n ts) next1 keep (some (fr,h))=true) (hts:aO (λp=>Nat.blt p.1 n) ts=true)
  {a:Act}(hr:HR P σ h w) (hA:AR σ fr a):HR P σ (ofL next1 keep) w/\AR σ (frL n ts) a:=by
 have hf':(Nat.beq fr.n (frL n ts).n && Nat.beq h.next next1 && aO (λt=>sD (fr.get t) ((frL n ts).get t)) (List.range (frL n ts).n) && aO (λp=>sE (h.get p.1) p.2) keep)=true:=hf
 obtain⟨h1,h4⟩:=ak hf'
 obtain⟨h1,h3⟩:=ak h1
 obtain⟨h1,h2⟩:=ak h1
 have h1:=aq h1;have h2:=aq h2
 refine⟨hr.let_go ((mY _ _).trans h2.symm) λm o hm=>sG (aQ h4 (m,o) (qM keep hm)),h1.symm.trans hA.n,hA.d,λt _=>?_⟩
 by_cases ht:t<n
 ·have:=sF (aQ h3 t (List.mem_range.2 ht))
  unfold TR
  rw[<-this]
  exact hA.t t (λx=>x)
 ·have hn:(frL n ts).get t=none:=by
   have:∀l:List (Nat×Value),aO (λp=>Nat.blt p.1 n) l=true->(frT l).get t=none:=by
    intro l
    induction l with
    | nil=>intro _;rfl
    | cons p l ih=>
     intro hl
     have h5:=cW (aQ hl p (by simp))
     have h6:aO (λp=>Nat.blt p.1 n) l=true:=ma λx hx=>aQ hl x (by simp[hx])
     rw[frT,Tr.get_set_ne _ _ (by omega)]
     exact ih h6
   exact this ts hts
  unfold TR
  rw[hn]
  have hsz:a.tmps.size=n:=by rw[<-hA.n,h1];rfl
  rw[Array.getD_eq_getD_getElem?,Array.getElem?_eq_none (by omega)]
  exact bT σ
theorem qN (hm:P.follows .mixedOrders=true){N i:Nat}{c:Code}(hc:vL c=true){Q:Exit->Act->World->Prop}{fr:Fr}{h:AH}{ts:List (Nat×Value)}{n next1:Nat}{keep:List (Nat×AO)}
  (hf:uq (frL n ts) next1 keep (ee P (calls P (code P N)) (fj c) ((fj c).toList.take i) fr h)=true) (hts:aO (λp=>Nat.blt p.1 n) ts=true){frE:Fr}{hE:AH}
  (hf2:ee P (calls P (code P N)) (fj c) ((fj c).toList.drop i) (frL n ts) (ofL next1 keep)=some (frE,hE))
  {a:Act}(hr:HR P σ h w) (hA:AR σ fr a){B:Nat}(hfar:Far B σ) (hB:B<=w.heap.size)
  (hQ:∀σ' a' w',HR P σ' hE w'->AR σ' frE a'->Far B σ'->Below B w w'->(uu c).wp P Q a' w'):c.wp P Q a w:=by
 rw[CN hc]
 refine wp_seq (wp_region ?_)
 have hcall:=gV (mS hm N)
 generalize hops:fj c=ops at hf hf2
 have hlist:∀(os:List Oper) (k:Nat),os <+: ops.toList.drop k->(List.range' k os.length).map (λi=>ops[i]?)=os.map some:=by
  intro os
  induction os with
  | nil=>intro k _;rfl
  | cons o os ih=>
   intro k hk
   simp only[List.length_cons,List.range'_succ,List.map_cons]
   obtain⟨t,ht⟩:=hk
   have h1:ops.toList[k]? = some o:=by
    have:(ops.toList.drop k)[0]? = some o:=by rw[<-ht];rfl
    simpa using this
   rw[ih (k+1) ⟨t,by rw[<-List.drop_drop,<-ht];simp⟩]
   congr 1
   simpa using h1
 have hsplit:List.range ops.size=List.range' 0 (min i ops.size) ++ List.range' (min i ops.size) (ops.size - min i ops.size):=by
  rw[List.range_eq_range']
  have:=@List.range'_append_1 0 (min i ops.size) (ops.size - min i ops.size)
  rw[Nat.zero_add]at this
  rw[this]
  congr 1;omega
 rw[hsplit]
 cases h1:ee P (calls P (code P N)) ops (ops.toList.take i) fr h with
 | none=>rw[h1]at hf;cases hf
 | some fh=>
  obtain⟨fr1,h1'⟩:=fh
  rw[h1]at hf
  have hm1:(List.range' 0 (min i ops.size)).map (λi=>ops[i]?)=(ops.toList.take i).map some:=by
   have:=hlist (ops.toList.take i) 0 (List.take_prefix i _)
   rwa [List.length_take,Array.length_toList]at this
  have hm2:(List.range' (min i ops.size) (ops.size - min i ops.size)).map (λi=>ops[i]?)=(ops.toList.drop i).map some:=by
   have hd:ops.toList.drop (min i ops.size)=ops.toList.drop i:=by
    rcases Nat.le_total i ops.size with y | y
    ·rw[Nat.min_eq_left y]
    ·rw[Nat.min_eq_right y,List.drop_eq_nil_of_le (by simp),List.drop_eq_nil_of_le (by simpa using y)]
   have:=hlist (ops.toList.drop i) (min i ops.size) (by rw[hd];exact List.prefix_refl _)
   rwa [List.length_drop,Array.length_toList,show ops.size - i=ops.size - min i ops.size by omega]at this
  refine nd hcall _ _ hm1 hr hA h1 (λσ1 a1 w1 hs1 hA1=>?_)
  obtain⟨f1,b1⟩:=hs1.far hfar hB
  obtain⟨hr2,hA2⟩:=yS hf hts hs1.hr hA1
  refine ej hcall _ _ hm2 hr2 hA2 hf2 (λσ2 a2 w2 hs2 hA3=>?_)
  obtain⟨f2,b2⟩:=hs2.far f1 (Nat.le_trans hB b1.size)
  exact hQ σ2 a2 w2 hs2.hr hA3 f2 (b1.trans b2)
end
end Eva
end
section
open Go Go.RowKit
namespace Eva
noncomputable def sH:Code:=Tryz.f4.body.getD .skip
noncomputable def nf:Code:=(br 4 sH).2
noncomputable def ng:Code:=(br 5 nf).2
noncomputable def gc:Code:=(br 3 ng).2
def CO:List (Nat×Value):=[
(0,.bool false),
(1,.pointer (some ⟨134,0,none⟩)),
(2,.pointer (some ⟨135,0,none⟩)),
(3,.slice (some ⟨137,0,none⟩) 1 2),
(4,.pointer (some ⟨228,0,none⟩)),
(5,.pointer (some ⟨409,0,none⟩)),
(6,.slice (some ⟨607,0,none⟩) 2 4),
(7,.bool true),
(18,.tuple #[.agg #[.slice (some ⟨129,0,none⟩) 5 11,.slice (some ⟨131,0,none⟩) 5 11,.slice (some ⟨110,0,none⟩) 1 2],.agg #[.slice (some ⟨133,0,none⟩) 1 2]]),
(19,.tuple #[.agg #[.slice (some ⟨129,0,none⟩) 5 11,.slice (some ⟨131,0,none⟩) 5 11,.slice (some ⟨110,0,none⟩) 1 2],.agg #[.slice (some ⟨133,0,none⟩) 1 2]]),
(20,.agg #[.slice (some ⟨129,0,none⟩) 5 11,.slice (some ⟨131,0,none⟩) 5 11,.slice (some ⟨110,0,none⟩) 1 2]),
(21,.agg #[.slice (some ⟨133,0,none⟩) 1 2]),
(22,.agg #[.int .i64 1,.int .i64 2,.int .i64 0,.int .i64 0,.int .i64 19]),
(23,.slice (some ⟨136,0,none⟩) 1 2),
(24,.slice (some ⟨137,0,none⟩) 1 2),
(25,.tuple #[.pointer (some ⟨228,0,none⟩),.pointer (some ⟨409,0,none⟩),.slice (some ⟨607,0,none⟩) 2 4,.bool true]),
(26,.agg #[.slice (some ⟨129,0,none⟩) 5 11,.slice (some ⟨131,0,none⟩) 5 11,.slice (some ⟨110,0,none⟩) 1 2]),
(27,.agg #[.slice (some ⟨133,0,none⟩) 1 2]),
(28,.slice (some ⟨137,0,none⟩) 1 2),
(29,.tuple #[.pointer (some ⟨228,0,none⟩),.pointer (some ⟨409,0,none⟩),.slice (some ⟨607,0,none⟩) 2 4,.bool true]),
(30,.pointer (some ⟨228,0,none⟩)),
(31,.pointer (some ⟨409,0,none⟩)),
(32,.slice (some ⟨607,0,none⟩) 2 4),
(33,.bool true)]
def yT:List (Nat×AO):=[
(109,.cells [.int .i64 1] 2 false),
(110,.cells [.int .i64 1,.int .i64 1,.slice (some ⟨109,0,none⟩) 1 2] 121 false),
(129,.cells [.int .i64 0,.int .i64 0,.int .i64 0,.int .i64 1,.int .i64 0,.int .i64 0,.int .i64 2,.int .i64 0,.int .i64 0,.int .i64 3,.int .i64 0,.int .i64 0,.int .i64 4,.int .i64 0,.int .i64 0] 123 false),
(131,.cells [.int .i64 0,.int .i64 1,.int .i64 9,.int .i64 1,.int .i64 2,.int .i64 9,.int .i64 2,.int .i64 3,.int .i64 9,.int .i64 3,.int .i64 4,.int .i64 9,.int .i64 4,.int .i64 0,.int .i64 9] 44 false),
(134,.cells [.slice (some ⟨129,0,none⟩) 5 11,.slice (some ⟨131,0,none⟩) 5 11,.slice (some ⟨110,0,none⟩) 1 2] 26 false),
(216,.cells [.int .i64 1,.int .i64 1,.slice (some ⟨219,0,none⟩) 1 3] 271 false),
(219,.cells [.int .i64 1] 2 false),
(221,.cells [.int .i64 0,.int .i64 0,.int .i64 0,.int .i64 1,.int .i64 0,.int .i64 0,.int .i64 2,.int .i64 0,.int .i64 0,.int .i64 3,.int .i64 0,.int .i64 0,.int .i64 4,.int .i64 0,.int .i64 0] 272 false),
(223,.cells [.int .i64 0,.int .i64 1,.int .i64 9,.int .i64 1,.int .i64 2,.int .i64 9,.int .i64 2,.int .i64 3,.int .i64 19,.int .i64 3,.int .i64 4,.int .i64 9,.int .i64 4,.int .i64 0,.int .i64 9] 285 false),
(225,.cells [.slice (some ⟨251,0,none⟩) 1 3,.slice (some ⟨231,0,none⟩) 1 3,.slice (some ⟨236,0,none⟩) 1 3,.slice (some ⟨241,0,none⟩) 1 3,.slice (some ⟨246,0,none⟩) 1 3] 31 false),
(226,.cells [.slice (some ⟨233,0,none⟩) 1 3,.slice (some ⟨238,0,none⟩) 1 3,.slice (some ⟨243,0,none⟩) 1 3,.slice (some ⟨248,0,none⟩) 1 3,.slice (some ⟨253,0,none⟩) 1 3] 31 false),
(227,.cells [.int .i64 0,.int .i64 0,.int .i64 0,.int .i64 0,.int .i64 0,.int .i64 0,.int .i64 0,.int .i64 0,.int .i64 0,.int .i64 0] 370 false),
(228,.cells [.slice (some ⟨221,0,none⟩) 5 11,.slice (some ⟨223,0,none⟩) 5 11,.slice (some ⟨216,0,none⟩) 1 2,.slice (some ⟨225,0,none⟩) 5 10,.slice (some ⟨226,0,none⟩) 5 10,.slice (some ⟨227,0,none⟩) 5 10] 212 false),
(231,.cells [.int .i64 0] 3 false),
(233,.cells [.int .i64 0] 3 false),
(236,.cells [.int .i64 1] 3 false),
(238,.cells [.int .i64 1] 3 false),
(241,.cells [.int .i64 2] 3 false),
(243,.cells [.int .i64 2] 3 false),
(246,.cells [.int .i64 3] 3 false),
(248,.cells [.int .i64 3] 3 false),
(251,.cells [.int .i64 4] 3 false),
(253,.cells [.int .i64 4] 3 false),
(383,.cells [.int .i64 0,.int .i64 0,.int .i64 1,.int .i64 1,.int .i64 1] 3 false),
(385,.cells [.slice (some ⟨383,0,none⟩) 5 11] 31 false),
(391,.cells [.slice (some ⟨394,0,none⟩) 2 4] 102 false),
(394,.cells [.slice (some ⟨406,0,none⟩) 1 3,.slice (some ⟨404,0,none⟩) 1 3,.slice (some ⟨402,0,none⟩) 1 3,.slice (some ⟨408,0,none⟩) 1 3] 46 false),
(402,.cells [.int .i64 1] 3 false),
(404,.cells [.int .i64 1] 3 false),
(406,.cells [.int .i64 4] 3 false),
(408,.cells [.int .i64 4] 3 false),
(409,.cells [.slice (some ⟨385,0,none⟩) 1 3,.slice (some ⟨427,0,none⟩) 5 11,.slice (some ⟨429,0,none⟩) 5 11,.slice (some ⟨391,0,none⟩) 1 2,.slice (some ⟨434,0,none⟩) 1 3,.int .i64 2] 106 false),
(427,.cells [.int .i64 0,.int .i64 1,.int .i64 2,.int .i64 3,.int .i64 4] 3 false),
(429,.cells [.int .i64 1,.int .i64 2,.int .i64 3,.int .i64 4,.int .i64 0] 3 false),
(430,.cells [.int .i64 0,.int .i64 1] 3 false),
(434,.cells [.slice (some ⟨430,0,none⟩) 2 4] 31 false),
(607,.cells [.int .i64 11,.int .i64 31] 2 false)]
def yU:Nat:=674
def CQ:List (Nat×Value):=[
(0,.bool false),
(1,.pointer (some ⟨134,0,none⟩)),
(2,.pointer (some ⟨135,0,none⟩)),
(3,.slice (some ⟨137,0,none⟩) 1 2),
(4,.pointer (some ⟨228,0,none⟩)),
(5,.pointer (some ⟨409,0,none⟩)),
(6,.slice (some ⟨607,0,none⟩) 2 4),
(7,.bool true),
(8,.int .i64 40),
(9,.nilIface),
(10,.pointer (some ⟨789,0,none⟩)),
(11,.nilIface),
(12,.pointer (some ⟨798,0,none⟩)),
(13,.pointer (some ⟨996,0,none⟩)),
(14,.nilIface),
(18,.tuple #[.agg #[.slice (some ⟨129,0,none⟩) 5 11,.slice (some ⟨131,0,none⟩) 5 11,.slice (some ⟨110,0,none⟩) 1 2],.agg #[.slice (some ⟨133,0,none⟩) 1 2]]),
(19,.tuple #[.agg #[.slice (some ⟨129,0,none⟩) 5 11,.slice (some ⟨131,0,none⟩) 5 11,.slice (some ⟨110,0,none⟩) 1 2],.agg #[.slice (some ⟨133,0,none⟩) 1 2]]),
(20,.agg #[.slice (some ⟨129,0,none⟩) 5 11,.slice (some ⟨131,0,none⟩) 5 11,.slice (some ⟨110,0,none⟩) 1 2]),
(21,.agg #[.slice (some ⟨133,0,none⟩) 1 2]),
(22,.agg #[.int .i64 1,.int .i64 2,.int .i64 0,.int .i64 0,.int .i64 19]),
(23,.slice (some ⟨136,0,none⟩) 1 2),
(24,.slice (some ⟨137,0,none⟩) 1 2),
(25,.tuple #[.pointer (some ⟨228,0,none⟩),.pointer (some ⟨409,0,none⟩),.slice (some ⟨607,0,none⟩) 2 4,.bool true]),
(26,.agg #[.slice (some ⟨129,0,none⟩) 5 11,.slice (some ⟨131,0,none⟩) 5 11,.slice (some ⟨110,0,none⟩) 1 2]),
(27,.agg #[.slice (some ⟨133,0,none⟩) 1 2]),
(28,.slice (some ⟨137,0,none⟩) 1 2),
(29,.tuple #[.pointer (some ⟨228,0,none⟩),.pointer (some ⟨409,0,none⟩),.slice (some ⟨607,0,none⟩) 2 4,.bool true]),
(30,.pointer (some ⟨228,0,none⟩)),
(31,.pointer (some ⟨409,0,none⟩)),
(32,.slice (some ⟨607,0,none⟩) 2 4),
(33,.bool true),
(34,.bool true),
(35,.bool false),
(36,.tuple #[.int .i64 40,.nilIface]),
(37,.pointer (some ⟨228,0,none⟩)),
(38,.pointer (some ⟨409,0,none⟩)),
(39,.slice (some ⟨607,0,none⟩) 2 4),
(40,.tuple #[.int .i64 40,.nilIface]),
(41,.int .i64 40),
(42,.nilIface),
(43,.tuple #[.agg #[.slice (some ⟨788,0,none⟩) 4 9,.int .i64 40,.int .i64 0],.nilIface]),
(44,.pointer (some ⟨228,0,none⟩)),
(45,.pointer (some ⟨409,0,none⟩)),
(46,.slice (some ⟨607,0,none⟩) 2 4),
(47,.tuple #[.agg #[.slice (some ⟨788,0,none⟩) 4 9,.int .i64 40,.int .i64 0],.nilIface]),
(48,.agg #[.slice (some ⟨788,0,none⟩) 4 9,.int .i64 40,.int .i64 0]),
(49,.nilIface),
(50,.agg #[.int .i64 3,.int .i64 2]),
(51,.agg #[.int .i64 1,.int .i64 3]),
(52,.slice (some ⟨790,0,none⟩) 2 4),
(53,.agg #[.int .i64 0,.int .i64 5,.int .i64 60,.slice (some ⟨790,0,none⟩) 2 4]),
(54,.agg #[.int .i64 0,.int .i64 5,.int .i64 60,.slice (some ⟨797,0,none⟩) 2 5]),
(55,.tuple #[.agg #[.slice (some ⟨993,0,none⟩) 1 2,.int .i64 60],.nilIface]),
(56,.pointer (some ⟨228,0,none⟩)),
(57,.pointer (some ⟨409,0,none⟩)),
(58,.slice (some ⟨607,0,none⟩) 2 4),
(59,.agg #[.int .i64 0,.int .i64 5,.int .i64 60,.slice (some ⟨797,0,none⟩) 2 5]),
(60,.tuple #[.agg #[.slice (some ⟨993,0,none⟩) 1 2,.int .i64 60],.nilIface]),
(61,.agg #[.slice (some ⟨993,0,none⟩) 1 2,.int .i64 60]),
(62,.nilIface)]
def yV:List (Nat×AO):=[
(109,.cells [.int .i64 1] 2 false),
(110,.cells [.int .i64 1,.int .i64 1,.slice (some ⟨109,0,none⟩) 1 2] 121 false),
(129,.cells [.int .i64 0,.int .i64 0,.int .i64 0,.int .i64 1,.int .i64 0,.int .i64 0,.int .i64 2,.int .i64 0,.int .i64 0,.int .i64 3,.int .i64 0,.int .i64 0,.int .i64 4,.int .i64 0,.int .i64 0] 123 false),
(131,.cells [.int .i64 0,.int .i64 1,.int .i64 9,.int .i64 1,.int .i64 2,.int .i64 9,.int .i64 2,.int .i64 3,.int .i64 9,.int .i64 3,.int .i64 4,.int .i64 9,.int .i64 4,.int .i64 0,.int .i64 9] 44 false),
(134,.cells [.slice (some ⟨129,0,none⟩) 5 11,.slice (some ⟨131,0,none⟩) 5 11,.slice (some ⟨110,0,none⟩) 1 2] 26 false),
(788,.cells [.int .i64 0,.int .i64 1,.int .i64 2,.int .i64 3] 3 false),
(789,.cells [.slice (some ⟨788,0,none⟩) 4 9,.int .i64 40,.int .i64 0] 63 false),
(993,.cells [.slice (some ⟨995,0,none⟩) 2 5] 31 false),
(995,.cells [.int .i64 2,.int .i64 1] 3 false),
(996,.cells [.slice (some ⟨993,0,none⟩) 1 2,.int .i64 60] 76 false)]
def yW:Nat:=997
def yX:List (Nat×Value):=[
(0,.bool false),
(1,.pointer (some ⟨134,0,none⟩)),
(2,.pointer (some ⟨135,0,none⟩)),
(3,.slice (some ⟨137,0,none⟩) 1 2),
(4,.pointer (some ⟨228,0,none⟩)),
(5,.pointer (some ⟨409,0,none⟩)),
(6,.slice (some ⟨607,0,none⟩) 2 4),
(7,.bool true),
(8,.int .i64 40),
(9,.nilIface),
(10,.pointer (some ⟨789,0,none⟩)),
(11,.nilIface),
(12,.pointer (some ⟨798,0,none⟩)),
(13,.pointer (some ⟨996,0,none⟩)),
(14,.nilIface),
(15,.string ⟨#[53,50,52,101,52,52,51,49,48,49,48,53,48,53,48,49,48,49,48,50,48,48,48,48,48,48,48,50,48,48,48,48,48,50,48,48,48,48,48,50,48,48,48,48,48,50,48,48,48,48,48,48,48,49,48,97,48,49,48,50,48,97,48,50,48,51,48,97,48,51,48,52,48,97,48,52,48,48,48,97,55,49,48,48,52,98,48,48]⟩),
(16,.bool true),
(17,.pointer (some ⟨1234,0,none⟩)),
(18,.tuple #[.agg #[.slice (some ⟨129,0,none⟩) 5 11,.slice (some ⟨131,0,none⟩) 5 11,.slice (some ⟨110,0,none⟩) 1 2],.agg #[.slice (some ⟨133,0,none⟩) 1 2]]),
(19,.tuple #[.agg #[.slice (some ⟨129,0,none⟩) 5 11,.slice (some ⟨131,0,none⟩) 5 11,.slice (some ⟨110,0,none⟩) 1 2],.agg #[.slice (some ⟨133,0,none⟩) 1 2]]),
(20,.agg #[.slice (some ⟨129,0,none⟩) 5 11,.slice (some ⟨131,0,none⟩) 5 11,.slice (some ⟨110,0,none⟩) 1 2]),
(21,.agg #[.slice (some ⟨133,0,none⟩) 1 2]),
(22,.agg #[.int .i64 1,.int .i64 2,.int .i64 0,.int .i64 0,.int .i64 19]),
(23,.slice (some ⟨136,0,none⟩) 1 2),
(24,.slice (some ⟨137,0,none⟩) 1 2),
(25,.tuple #[.pointer (some ⟨228,0,none⟩),.pointer (some ⟨409,0,none⟩),.slice (some ⟨607,0,none⟩) 2 4,.bool true]),
(26,.agg #[.slice (some ⟨129,0,none⟩) 5 11,.slice (some ⟨131,0,none⟩) 5 11,.slice (some ⟨110,0,none⟩) 1 2]),
(27,.agg #[.slice (some ⟨133,0,none⟩) 1 2]),
(28,.slice (some ⟨137,0,none⟩) 1 2),
(29,.tuple #[.pointer (some ⟨228,0,none⟩),.pointer (some ⟨409,0,none⟩),.slice (some ⟨607,0,none⟩) 2 4,.bool true]),
(30,.pointer (some ⟨228,0,none⟩)),
(31,.pointer (some ⟨409,0,none⟩)),
(32,.slice (some ⟨607,0,none⟩) 2 4),
(33,.bool true),
(34,.bool true),
(35,.bool false),
(36,.tuple #[.int .i64 40,.nilIface]),
(37,.pointer (some ⟨228,0,none⟩)),
(38,.pointer (some ⟨409,0,none⟩)),
(39,.slice (some ⟨607,0,none⟩) 2 4),
(40,.tuple #[.int .i64 40,.nilIface]),
(41,.int .i64 40),
(42,.nilIface),
(43,.tuple #[.agg #[.slice (some ⟨788,0,none⟩) 4 9,.int .i64 40,.int .i64 0],.nilIface]),
(44,.pointer (some ⟨228,0,none⟩)),
(45,.pointer (some ⟨409,0,none⟩)),
(46,.slice (some ⟨607,0,none⟩) 2 4),
(47,.tuple #[.agg #[.slice (some ⟨788,0,none⟩) 4 9,.int .i64 40,.int .i64 0],.nilIface]),
(48,.agg #[.slice (some ⟨788,0,none⟩) 4 9,.int .i64 40,.int .i64 0]),
(49,.nilIface),
(50,.agg #[.int .i64 3,.int .i64 2]),
(51,.agg #[.int .i64 1,.int .i64 3]),
(52,.slice (some ⟨790,0,none⟩) 2 4),
(53,.agg #[.int .i64 0,.int .i64 5,.int .i64 60,.slice (some ⟨790,0,none⟩) 2 4]),
(54,.agg #[.int .i64 0,.int .i64 5,.int .i64 60,.slice (some ⟨797,0,none⟩) 2 5]),
(55,.tuple #[.agg #[.slice (some ⟨993,0,none⟩) 1 2,.int .i64 60],.nilIface]),
(56,.pointer (some ⟨228,0,none⟩)),
(57,.pointer (some ⟨409,0,none⟩)),
(58,.slice (some ⟨607,0,none⟩) 2 4),
(59,.agg #[.int .i64 0,.int .i64 5,.int .i64 60,.slice (some ⟨797,0,none⟩) 2 5]),
(60,.tuple #[.agg #[.slice (some ⟨993,0,none⟩) 1 2,.int .i64 60],.nilIface]),
(61,.agg #[.slice (some ⟨993,0,none⟩) 1 2,.int .i64 60]),
(62,.nilIface),
(63,.tuple #[.string ⟨#[53,50,52,101,52,52,51,49,48,49,48,53,48,53,48,49,48,49,48,50,48,48,48,48,48,48,48,50,48,48,48,48,48,50,48,48,48,48,48,50,48,48,48,48,48,50,48,48,48,48,48,48,48,49,48,97,48,49,48,50,48,97,48,50,48,51,48,97,48,51,48,52,48,97,48,52,48,48,48,97,55,49,48,48,52,98,48,48]⟩,.bool true]),
(64,.agg #[.slice (some ⟨129,0,none⟩) 5 11,.slice (some ⟨131,0,none⟩) 5 11,.slice (some ⟨110,0,none⟩) 1 2]),
(65,.tuple #[.string ⟨#[53,50,52,101,52,52,51,49,48,49,48,53,48,53,48,49,48,49,48,50,48,48,48,48,48,48,48,50,48,48,48,48,48,50,48,48,48,48,48,50,48,48,48,48,48,50,48,48,48,48,48,48,48,49,48,97,48,49,48,50,48,97,48,50,48,51,48,97,48,51,48,52,48,97,48,52,48,48,48,97,55,49,48,48,52,98,48,48]⟩,.bool true]),
(66,.string ⟨#[53,50,52,101,52,52,51,49,48,49,48,53,48,53,48,49,48,49,48,50,48,48,48,48,48,48,48,50,48,48,48,48,48,50,48,48,48,48,48,50,48,48,48,48,48,50,48,48,48,48,48,48,48,49,48,97,48,49,48,50,48,97,48,50,48,51,48,97,48,51,48,52,48,97,48,52,48,48,48,97,55,49,48,48,52,98,48,48]⟩),
(67,.bool true),
(68,.pointer (some ⟨1234,0,none⟩)),
(69,.bool true),
(70,.bool false),
(71,.bool false),
(72,.pointer (some ⟨1234,0,none⟩)),
(73,.bool false),
(74,.bool false)]
def vM:List (Nat×AO):=[
(788,.cells [.int .i64 0,.int .i64 1,.int .i64 2,.int .i64 3] 3 false),
(789,.cells [.slice (some ⟨788,0,none⟩) 4 9,.int .i64 40,.int .i64 0] 63 false),
(993,.cells [.slice (some ⟨995,0,none⟩) 2 5] 31 false),
(995,.cells [.int .i64 2,.int .i64 1] 3 false),
(996,.cells [.slice (some ⟨993,0,none⟩) 1 2,.int .i64 60] 76 false),
(1234,.cells [.pointer none,.pointer none,.slice none 0 0] 156 false)]
def vN:Nat:=1235
def yY:List (Nat×Value):=[
(0,.bool false),
(1,.pointer (some ⟨134,0,none⟩)),
(2,.pointer (some ⟨135,0,none⟩)),
(3,.slice (some ⟨137,0,none⟩) 1 2),
(4,.pointer (some ⟨228,0,none⟩)),
(5,.pointer (some ⟨409,0,none⟩)),
(6,.slice (some ⟨607,0,none⟩) 2 4),
(7,.bool true),
(8,.int .i64 40),
(9,.nilIface),
(10,.pointer (some ⟨789,0,none⟩)),
(11,.nilIface),
(12,.pointer (some ⟨798,0,none⟩)),
(13,.pointer (some ⟨996,0,none⟩)),
(14,.nilIface),
(15,.string ⟨#[53,50,52,101,52,52,51,49,48,49,48,53,48,53,48,49,48,49,48,50,48,48,48,48,48,48,48,50,48,48,48,48,48,50,48,48,48,48,48,50,48,48,48,48,48,50,48,48,48,48,48,48,48,49,48,97,48,49,48,50,48,97,48,50,48,51,48,97,48,51,48,52,48,97,48,52,48,48,48,97,55,49,48,48,52,98,48,48]⟩),
(16,.bool true),
(17,.pointer (some ⟨1234,0,none⟩)),
(18,.tuple #[.agg #[.slice (some ⟨129,0,none⟩) 5 11,.slice (some ⟨131,0,none⟩) 5 11,.slice (some ⟨110,0,none⟩) 1 2],.agg #[.slice (some ⟨133,0,none⟩) 1 2]]),
(19,.tuple #[.agg #[.slice (some ⟨129,0,none⟩) 5 11,.slice (some ⟨131,0,none⟩) 5 11,.slice (some ⟨110,0,none⟩) 1 2],.agg #[.slice (some ⟨133,0,none⟩) 1 2]]),
(20,.agg #[.slice (some ⟨129,0,none⟩) 5 11,.slice (some ⟨131,0,none⟩) 5 11,.slice (some ⟨110,0,none⟩) 1 2]),
(21,.agg #[.slice (some ⟨133,0,none⟩) 1 2]),
(22,.agg #[.int .i64 1,.int .i64 2,.int .i64 0,.int .i64 0,.int .i64 19]),
(23,.slice (some ⟨136,0,none⟩) 1 2),
(24,.slice (some ⟨137,0,none⟩) 1 2),
(25,.tuple #[.pointer (some ⟨228,0,none⟩),.pointer (some ⟨409,0,none⟩),.slice (some ⟨607,0,none⟩) 2 4,.bool true]),
(26,.agg #[.slice (some ⟨129,0,none⟩) 5 11,.slice (some ⟨131,0,none⟩) 5 11,.slice (some ⟨110,0,none⟩) 1 2]),
(27,.agg #[.slice (some ⟨133,0,none⟩) 1 2]),
(28,.slice (some ⟨137,0,none⟩) 1 2),
(29,.tuple #[.pointer (some ⟨228,0,none⟩),.pointer (some ⟨409,0,none⟩),.slice (some ⟨607,0,none⟩) 2 4,.bool true]),
(30,.pointer (some ⟨228,0,none⟩)),
(31,.pointer (some ⟨409,0,none⟩)),
(32,.slice (some ⟨607,0,none⟩) 2 4),
(33,.bool true),
(34,.bool true),
(35,.bool false),
(36,.tuple #[.int .i64 40,.nilIface]),
(37,.pointer (some ⟨228,0,none⟩)),
(38,.pointer (some ⟨409,0,none⟩)),
(39,.slice (some ⟨607,0,none⟩) 2 4),
(40,.tuple #[.int .i64 40,.nilIface]),
(41,.int .i64 40),
(42,.nilIface),
(43,.tuple #[.agg #[.slice (some ⟨788,0,none⟩) 4 9,.int .i64 40,.int .i64 0],.nilIface]),
(44,.pointer (some ⟨228,0,none⟩)),
(45,.pointer (some ⟨409,0,none⟩)),
(46,.slice (some ⟨607,0,none⟩) 2 4),
(47,.tuple #[.agg #[.slice (some ⟨788,0,none⟩) 4 9,.int .i64 40,.int .i64 0],.nilIface]),
(48,.agg #[.slice (some ⟨788,0,none⟩) 4 9,.int .i64 40,.int .i64 0]),
(49,.nilIface),
(50,.agg #[.int .i64 3,.int .i64 2]),
(51,.agg #[.int .i64 1,.int .i64 3]),
(52,.slice (some ⟨790,0,none⟩) 2 4),
(53,.agg #[.int .i64 0,.int .i64 5,.int .i64 60,.slice (some ⟨790,0,none⟩) 2 4]),
(54,.agg #[.int .i64 0,.int .i64 5,.int .i64 60,.slice (some ⟨797,0,none⟩) 2 5]),
(55,.tuple #[.agg #[.slice (some ⟨993,0,none⟩) 1 2,.int .i64 60],.nilIface]),
(56,.pointer (some ⟨228,0,none⟩)),
(57,.pointer (some ⟨409,0,none⟩)),
(58,.slice (some ⟨607,0,none⟩) 2 4),
(59,.agg #[.int .i64 0,.int .i64 5,.int .i64 60,.slice (some ⟨797,0,none⟩) 2 5]),
(60,.tuple #[.agg #[.slice (some ⟨993,0,none⟩) 1 2,.int .i64 60],.nilIface]),
(61,.agg #[.slice (some ⟨993,0,none⟩) 1 2,.int .i64 60]),
(62,.nilIface),
(63,.tuple #[.string ⟨#[53,50,52,101,52,52,51,49,48,49,48,53,48,53,48,49,48,49,48,50,48,48,48,48,48,48,48,50,48,48,48,48,48,50,48,48,48,48,48,50,48,48,48,48,48,50,48,48,48,48,48,48,48,49,48,97,48,49,48,50,48,97,48,50,48,51,48,97,48,51,48,52,48,97,48,52,48,48,48,97,55,49,48,48,52,98,48,48]⟩,.bool true]),
(64,.agg #[.slice (some ⟨129,0,none⟩) 5 11,.slice (some ⟨131,0,none⟩) 5 11,.slice (some ⟨110,0,none⟩) 1 2]),
(65,.tuple #[.string ⟨#[53,50,52,101,52,52,51,49,48,49,48,53,48,53,48,49,48,49,48,50,48,48,48,48,48,48,48,50,48,48,48,48,48,50,48,48,48,48,48,50,48,48,48,48,48,50,48,48,48,48,48,48,48,49,48,97,48,49,48,50,48,97,48,50,48,51,48,97,48,51,48,52,48,97,48,52,48,48,48,97,55,49,48,48,52,98,48,48]⟩,.bool true]),
(66,.string ⟨#[53,50,52,101,52,52,51,49,48,49,48,53,48,53,48,49,48,49,48,50,48,48,48,48,48,48,48,50,48,48,48,48,48,50,48,48,48,48,48,50,48,48,48,48,48,50,48,48,48,48,48,48,48,49,48,97,48,49,48,50,48,97,48,50,48,51,48,97,48,51,48,52,48,97,48,52,48,48,48,97,55,49,48,48,52,98,48,48]⟩),
(67,.bool true),
(68,.pointer (some ⟨1234,0,none⟩)),
(69,.bool true),
(70,.bool false),
(71,.bool false),
(72,.pointer (some ⟨1234,0,none⟩)),
(73,.bool false),
(74,.bool false),
(75,.nilIface),
(76,.bool true),
(77,.bool true),
(78,.int .i64 40),
(79,.bool true),
(80,.bool true),
(81,.bool true),
(82,.nilIface),
(83,.bool true),
(84,.bool true),
(85,.bool true),
(86,.pointer (some ⟨789,0,none⟩)),
(87,.slice (some ⟨788,0,none⟩) 4 9),
(88,.slice (some ⟨1235,0,none⟩) 4 8),
(89,.bool true),
(90,.bool true),
(91,.bool true),
(92,.nilIface),
(93,.bool true),
(94,.bool true),
(95,.bool true),
(96,.pointer (some ⟨996,1,none⟩)),
(97,.int .i64 60),
(98,.bool true),
(99,.bool true),
(100,.bool true),
(101,.pointer (some ⟨996,0,none⟩)),
(102,.slice (some ⟨993,0,none⟩) 1 2),
(103,.slice (some ⟨1236,0,none⟩) 2 4),
(104,.slice (some ⟨1237,0,none⟩) 1 2),
(105,.bool true),
(106,.bool true),
(107,.bool true),
(108,.pointer (some ⟨1234,0,none⟩)),
(109,.string ⟨#[53,50,52,101,52,52,51,49,48,49,48,53,48,53,48,49,48,49,48,50,48,48,48,48,48,48,48,50,48,48,48,48,48,50,48,48,48,48,48,50,48,48,48,48,48,50,48,48,48,48,48,48,48,49,48,97,48,49,48,50,48,97,48,50,48,51,48,97,48,51,48,52,48,97,48,52,48,48,48,97,55,49,48,48,52,98,48,48]⟩),
(110,.string ⟨#[108,111,97,100,32,53,50,52,101,52,52,51,49,48,49,48,53,48,53,48,49,48,49,48,50,48,48,48,48,48,48,48,50,48,48,48,48,48,50,48,48,48,48,48,50,48,48,48,48,48,50,48,48,48,48,48,48,48,49,48,97,48,49,48,50,48,97,48,50,48,51,48,97,48,51,48,52,48,97,48,52,48,48,48,97,55,49,48,48,52,98,48,48]⟩),
(111,.string ⟨#[111,107,32,53,32,53,32,49]⟩),
(112,.bool true),
(113,.bool true),
(114,.bool true),
(115,.pointer (some ⟨1234,0,none⟩))]
def vO:List (Nat×AO):=[
(1234,.cells [.pointer (some ⟨1372,0,none⟩),.pointer none,.slice none 0 0] 156 false),
(1360,.cells [.int .i64 1,.int .i64 1,.slice (some ⟨1363,0,none⟩) 1 3] 271 false),
(1363,.cells [.int .i64 1] 2 false),
(1365,.cells [.int .i64 0,.int .i64 0,.int .i64 0,.int .i64 1,.int .i64 0,.int .i64 0,.int .i64 2,.int .i64 0,.int .i64 0,.int .i64 3,.int .i64 0,.int .i64 0,.int .i64 4,.int .i64 0,.int .i64 0] 272 false),
(1367,.cells [.int .i64 0,.int .i64 1,.int .i64 9,.int .i64 1,.int .i64 2,.int .i64 9,.int .i64 2,.int .i64 3,.int .i64 9,.int .i64 3,.int .i64 4,.int .i64 9,.int .i64 4,.int .i64 0,.int .i64 9] 285 false),
(1369,.cells [.slice (some ⟨1395,0,none⟩) 1 3,.slice (some ⟨1375,0,none⟩) 1 3,.slice (some ⟨1380,0,none⟩) 1 3,.slice (some ⟨1385,0,none⟩) 1 3,.slice (some ⟨1390,0,none⟩) 1 3] 31 false),
(1370,.cells [.slice (some ⟨1377,0,none⟩) 1 3,.slice (some ⟨1382,0,none⟩) 1 3,.slice (some ⟨1387,0,none⟩) 1 3,.slice (some ⟨1392,0,none⟩) 1 3,.slice (some ⟨1397,0,none⟩) 1 3] 31 false),
(1371,.cells [.int .i64 0,.int .i64 0,.int .i64 0,.int .i64 0,.int .i64 0,.int .i64 0,.int .i64 0,.int .i64 0,.int .i64 0,.int .i64 0] 370 false),
(1372,.cells [.slice (some ⟨1365,0,none⟩) 5 11,.slice (some ⟨1367,0,none⟩) 5 11,.slice (some ⟨1360,0,none⟩) 1 2,.slice (some ⟨1369,0,none⟩) 5 10,.slice (some ⟨1370,0,none⟩) 5 10,.slice (some ⟨1371,0,none⟩) 5 10] 212 false),
(1375,.cells [.int .i64 0] 3 false),
(1377,.cells [.int .i64 0] 3 false),
(1380,.cells [.int .i64 1] 3 false),
(1382,.cells [.int .i64 1] 3 false),
(1385,.cells [.int .i64 2] 3 false),
(1387,.cells [.int .i64 2] 3 false),
(1390,.cells [.int .i64 3] 3 false),
(1392,.cells [.int .i64 3] 3 false),
(1395,.cells [.int .i64 4] 3 false),
(1397,.cells [.int .i64 4] 3 false)]
def vP:Nat:=1398
end Eva
end
end Go.Proofs.YtaomlhopkfmheaaGreatDoor
