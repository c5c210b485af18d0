/-
Lemmas for TopHops. No condition.
-/
import Derived.Test.YtmbadhdpcdbdbaaGreatDoorPb
import Derived.Below
import Derived.Test.YtmbadhdpcdbdbaaGreatDoorProg
import Derived.KernelRfl
namespace Go.Proofs.YtmbadhdpcdbdbaaGreatDoor
open _root_.Go.IntKind renaming i64->ψ
open _root_.Go.Value renaming int->ξ,pointer->μ,slice->ω
open _root_.Option renaming none->ν,some->η
set_option linter.unusedVariables false
set_option linter.unusedSimpArgs false
set_option linter.unusedSectionVars false
set_option linter.unnecessarySimpa false
section
open Go Go.RowKit
namespace Eva
noncomputable section
def zT (next:Nat):List (Nat×AO)->AH
 | []=>⟨next,.nil⟩
 | p :: l=>(zT next l).put p.1 p.2
def F4:List (Nat×Value)->Tr Value
 | []=>.nil
 | p :: l=>(F4 l).set p.1 (η p.2)
def pL (n:Nat) (l:List (Nat×Value)):Fr:=⟨n,F4 l⟩
def yU:List (Value×Value×Nat)->List (Value×Value×Nat)->Bool
 | [],[]=>true
 | (k,v,b) :: l,(k',v',b') :: m=>cond (CQ 6 k k' && CQ 6 v v' && Nat.beq b b') (yU l m) false
 | _,_=>false
def E2:AO->AO->Bool
 | .cells c e f,.cells c' e' f'=>pP (CQ 6) c c' && Nat.beq e e' && (f == f')
 | .map es n,.map es' n'=>yU es es' && Nat.beq n n'
 | _,_=>false
def tZ:Option Value->Option Value->Bool
 | none,ν=>true
 | some u,η v=>CQ 6 u v
 | _,_=>false
def t7 (x:Option AO) (o:AO):Bool:=
 match x with
 | some p=>E2 p o
 | none=>false
def Ba (k:Fr->AH->Option FH):R->Option FH
 | some (.normal,fr,h)=>k fr h
 | _=>ν
def vU (P:Program) (N:Nat) (cs:List Code):Fr->AH->Option FH:=
 List.rec (motive:=λ_=>Fr->AH->Option FH) (λfr h=>η (fr,h)) (λc _ ih fr h=>Ba ih (code P N c fr h)) cs
def bF:Nat->Code->List Code×Code
 | 0,c=>([],c)
 | n+1,.seq a b=>(a :: (bF n b).1,(bF n b).2)
 | _+1,c=>([],c)
def vV (fr1:Fr) (next1:Nat) (keep:List (Nat×AO)):Option FH->Bool
 | some (fr,h)=>Nat.beq fr.n fr1.n && Nat.beq h.next next1 && aU (λt=>tZ (fr.get t) (fr1.get t)) (List.range fr1.n) && aU (λp=>t7 (h.get p.1) p.2) keep
 | none=>false
end
section
variable {P:Program}{σ:aM}{w:World}
theorem kw:∀(n:Nat) (c:Code),(bF n c).1.foldr Code.seq (bF n c).2=c
 | 0,c=>rfl
 | n+1,c=>by
  unfold bF;cases c with
  | seq a b=>simp only[List.foldr_cons];rw[kw n b]
  | _=>rfl
theorem xH:∀(l m:List (Value×Value×Nat)),yU l m=true->l=m
 | [],[],_=>rfl
 | [],_ :: _,h=>by simp[yU]at h
 | _ :: _,[],h=>by simp[yU]at h
 | (k,v,b) :: l,(k',v',b') :: m,h=>by
  unfold yU at h;obtain⟨h1,h2⟩:=dW h;obtain⟨h3,h4⟩:=ak h1;obtain⟨h5,h6⟩:=ak h3;rw[fL 6 _ _ h5,fL 6 _ _ h6,av h4,xH l m h2]
theorem Do {x y:AO}(h:E2 x y=true):x=y:=by
 unfold E2 at h
 split at h
 .obtain⟨h1,h2⟩:=ak h;obtain⟨h3,h4⟩:=ak h1;rw[iW (fL 6) _ _ h3,av h4,beq_iff_eq.1 h2]
 .obtain⟨h1,h2⟩:=ak h;rw[xH _ _ h1,av h2]
 .cases h
theorem t8 {x y:Option Value}(h:tZ x y=true):x=y:=by
 unfold tZ at h
 split at h
 .rfl
 .rw[fL 6 _ _ h]
 .cases h
theorem t9 {x:Option AO}{o:AO}(h:t7 x o=true):x=η o:=by
 unfold t7 at h
 split at h
 .rw[Do h]
 .cases h
theorem oM (next:Nat):∀l,(zT next l).next=next
 | []=>rfl
 | p :: l=>oM next l
theorem sg {next:Nat}:∀(l:List (Nat×AO)){n:Nat}{o:AO},(zT next l).get n=η o->(n,o)∈l
 | [],n,o,h=>by cases h
 | p :: l,n,o,h=>by
  by_cases e:p.1=n
  .subst e;rw[zT,AH.get_put]at h;cases h;simp
  .rw[zT,AH.get_put_ne _ _ e]at h;exact List.mem_cons_of_mem _ (sg l h)
theorem HR.let_go {h hk:AH}(hr:HR P σ h w) (hn:hk.next=h.next) (hle:∀n o,hk.get n=η o->h.get n=η o):HR P σ hk w:=
 ⟨λn b x=>by rw[hn];exact hr.lt n b x,λn b o x y=>hr.obj n b o x (hle n o y),λn m b o p x1 x2 y1 y2=>hr.inj n m b o p x1 x2 (hle n o y1) (hle m p y2),λn hx=>by
  cases hg:hk.get n with
  | none=>rfl
  | some o=>have:=hle n o hg;rw[hr.none n (by rw[<-hn];exact hx)]at this;cases this⟩
def F5 (B:Nat) (σ:aM):Prop:=∀n b,σ n=η b->B<=b
theorem St.far {h h':AH}{w':World}{σ':aM}{B:Nat}(s:St P σ h w σ' h' w') (hf:F5 B σ) (hB:B<=w.heap.size):F5 B σ'/\Below B w w':=by
 refine⟨λn b hb=>?_,⟨s.os,s.tape,s.output,s.size,λb hb=>s.frame b U λn hn=>by have:=hf n b hn;omega⟩⟩;cases hq:σ n with
 | none=>
  rcases(s.new n b hb hq).2 with y | ⟨m,y⟩
  .omega
  .exact hf m b y
 | some c=>
  have:=(s.ext n c hq).1;rw[hb]at this;cases this;exact hf n b hq
theorem oN (hm:P.follows .mixedOrders=true){N:Nat}{rest:Code}{Q:Exit->Act->World->Prop}{frE:Fr}{hE:AH}:∀(cs:List Code){σ:aM}{w:World}{fr:Fr}{h:AH}{a:Act},vU P N cs fr h=η (frE,hE)->
  HR P σ h w->AR σ fr a->(∀σ' a' w',St P σ h w σ' hE w'->AR σ' frE a'->rest.wp P Q a' w')->(cs.foldr Code.seq rest).wp P Q a w
 | [],σ,w,fr,h,a,hc,hr,hA,hQ=>by
  have:η (fr,h)=η (frE,hE):=hc;cases this;exact hQ σ a w (St.refl hr) hA
 | c :: cs,σ,w,fr,h,a,hc,hr,hA,hQ=>by
  have hc':Ba (vU P N cs) (code P N c fr h)=η (frE,hE):=hc;unfold Ba at hc'
  split at hc'
  .rename_i fr1 h1 he;refine wp_seq (oG hm N c fr h .normal fr1 h1 he σ w a _ hr hA (λx σ1 a1 w1 hx hs hA1=>?_));cases x <;>first | exact hx.elim | skip
   exact oN hm cs hc' hs.hr hA1 (λσ2 a2 w2 hs2 hA2=>hQ σ2 a2 w2 (hs.trans hs2) hA2)
  .cases hc'
theorem jG (hm:P.follows .mixedOrders=true){N:Nat}{cs:List Code}{rest:Code}{Q:Exit->Act->World->Prop}{fr:Fr}{h:AH}{ts:List (Nat×Value)}{n next1:Nat}{keep:List (Nat×AO)}
  (hf:vV (pL n ts) next1 keep (vU P N cs fr h)=true) (hts:aU (λp=>Nat.blt p.1 n) ts=true){a:Act}(hr:HR P σ h w) (hA:AR σ fr a){B:Nat}(hfar:F5 B σ) (hB:B<=w.heap.size)
  (hQ:∀σ' a' w',HR P σ' (zT next1 keep) w'->AR σ' (pL n ts) a'->F5 B σ'->Below B w w'->rest.wp P Q a' w'):(cs.foldr Code.seq rest).wp P Q a w:=by
 cases hrun:vU P N cs fr h with
 | none=>rw[hrun]at hf;cases hf
 | some fh=>
  obtain⟨frE,hE⟩:=fh;rw[hrun]at hf;have hf':(Nat.beq frE.n (pL n ts).n && Nat.beq hE.next next1 && aU (λt=>tZ (frE.get t) ((pL n ts).get t)) (List.range (pL n ts).n) && aU (λp=>t7 (hE.get p.1) p.2) keep)=true:=hf;obtain⟨h1,h4⟩:=ak hf';obtain⟨h1,h3⟩:=ak h1;obtain⟨h1,h2⟩:=ak h1;have h1:=av h1;have h2:=av h2;refine oN hm cs hrun hr hA (λσ' a' w' hs hA'=>?_);obtain⟨f1,f2⟩:=hs.far hfar hB;refine hQ σ' a' w' (hs.hr.let_go ((oM _ _).trans h2.symm) λm o hm=>?_) ⟨h1.symm.trans hA'.n,hA'.d,λt _=>?_⟩ f1 f2
  .exact t9 (aW h4 (m,o) (sg keep hm))
  .by_cases ht:t<n
   .have:=t8 (aW h3 t (List.mem_range.2 ht));unfold TR;rw[<-this];exact hA'.t t (λx=>x)
   .have hn:(pL n ts).get t=none:=by
     have:∀l:List (Nat×Value),aU (λp=>Nat.blt p.1 n) l=true->(F4 l).get t=none:=by
      intro l
      induction l with
      | nil=>intro _;rfl
      | cons p l ih=>
       intro hl;have h5:=du (aW hl p (by simp));have h6:aU (λp=>Nat.blt p.1 n) l=true:=nk λx hx=>aW hl x (by simp[hx]);rw[F4,Tr.get_set_ne _ _ U];exact ih h6
     exact this ts hts
    unfold TR;rw[hn];have hsz:a'.tmps.size=n:=by rw[<-hA'.n,h1];rfl
    rw[Array.getD_eq_getD_getElem?,Array.getElem?_eq_none U];exact cz σ'
end
end Eva
end
section
open Go Go.RowKit
namespace Eva
noncomputable section
def fN:Code->Array Oper
 | .seq (.region _ ops _) _=>ops
 | _=>#[]
def vW:Code->Code
 | .seq _ b=>b
 | c=>c
def xI:Code->Bool
 | .seq (.region _ _ false) _=>true
 | _=>false
def Gq:Code->Nat
 | .seq (.region id _ _) _=>id
 | _=>0
end
section
variable {P:Program}{σ:aM}{w:World}
theorem E4 {c:Code}(h:xI c=true):c = .seq (.region (Gq c) (fN c) false) (vW c):=by
 unfold xI at h
 split at h
 .rfl
 .cases h
theorem oO {call:mI}(hcall:dL P call){ops:Array Oper}{Q:Exit->Act->World->Prop}{more:List Nat}:∀(l:List Nat) (os:List Oper){σ:aM}{w:World}{a:Act}{fr fr':Fr}{h h':AH},
  l.map (λi=>ops[i]?)=os.map η->HR P σ h w->AR σ fr a->eQ P call ops os fr h=η (fr',h')->
  (∀σ' a' w',St P σ h w σ' h' w'->AR σ' fr' a'->wpOps P ops Q more a' w')->wpOps P ops Q (l ++ more) a w
 | [],os,σ,w,a,fr,fr',h,h',hl,hr,hA,ho,hQ=>by
  have:os = []:=by cases os <;>simp_all
  subst this;have ho':η (fr,h)=η (fr',h'):=ho;cases ho';exact hQ σ a w (St.refl hr) hA
 | i :: l,os,σ,w,a,fr,fr',h,h',hl,hr,hA,ho,hQ=>by
  cases os with
  | nil=>simp at hl
  | cons o os=>
   simp only[List.map_cons,List.cons.injEq]at hl;obtain⟨hi,hl⟩:=hl;have ho':iR (eQ P call ops os) (jy P call ops o fr h)=η (fr',h'):=ho;cases h1:jy P call ops o fr h with
   | none=>rw[h1]at ho';cases ho'
   | some fh=>
    obtain⟨fr1,h1'⟩:=fh;rw[h1]at ho';have ho2:eQ P call ops os fr1 h1' = η (fr',h'):=ho';have hT:∀t∈o.looksAt ops,TR σ fr a t:=λt _=>hA.t t (λx=>x);have hw:=nj (ops:=ops) (o:=o) hT;simp only[List.cons_append,wpOps,hi];unfold jy at h1;cases hwant:dm ops fr o with
    | false=>
     rw[hwant]at h1 hw;simp only[cond_false]at h1;cases h1;simp only[hw,Bool.false_eq_true,if_false];exact oO hcall l os hl hr (hA.put (cz σ)) ho2 hQ
    | true=>
     rw[hwant]at h1 hw;simp only[cond_true]at h1;obtain⟨hc,h2⟩:=ae h1;simp only[hw,if_true];refine .inl (lF hcall hr (rX hc hT) h2 ?_);rintro v v' w' σ' rfl hs hv;exact oO hcall l os hl hs.hr ((hA.mono hs.ext).put hv) ho2 (λσ2 a2 w2 hs2 hA2=>hQ σ2 a2 w2 (hs.trans hs2) hA2)
theorem Bb {fr:Fr}{h:AH}{ts:List (Nat×Value)}{n next1:Nat}{keep:List (Nat×AO)}(hf:vV (pL n ts) next1 keep (η (fr,h))=true) (hts:aU (λp=>Nat.blt p.1 n) ts=true)
  {a:Act}(hr:HR P σ h w) (hA:AR σ fr a):HR P σ (zT next1 keep) w/\AR σ (pL n ts) a:=by
 have hf':(Nat.beq fr.n (pL n ts).n && Nat.beq h.next next1 && aU (λt=>tZ (fr.get t) ((pL n ts).get t)) (List.range (pL n ts).n) && aU (λp=>t7 (h.get p.1) p.2) keep)=true:=hf;obtain⟨h1,h4⟩:=ak hf';obtain⟨h1,h3⟩:=ak h1;obtain⟨h1,h2⟩:=ak h1;have h1:=av h1;have h2:=av h2;refine⟨hr.let_go ((oM _ _).trans h2.symm) λm o hm=>t9 (aW h4 (m,o) (sg keep hm)),h1.symm.trans hA.n,hA.d,λt _=>?_⟩;by_cases ht:t<n
 .have:=t8 (aW h3 t (List.mem_range.2 ht));unfold TR;rw[<-this];exact hA.t t (λx=>x)
 .have hn:(pL n ts).get t=none:=by
   have:∀l:List (Nat×Value),aU (λp=>Nat.blt p.1 n) l=true->(F4 l).get t=none:=by
    intro l
    induction l with
    | nil=>intro _;rfl
    | cons p l ih=>
     intro hl;have h5:=du (aW hl p (by simp));have h6:aU (λp=>Nat.blt p.1 n) l=true:=nk λx hx=>aW hl x (by simp[hx]);rw[F4,Tr.get_set_ne _ _ U];exact ih h6
   exact this ts hts
  unfold TR;rw[hn];have hsz:a.tmps.size=n:=by rw[<-hA.n,h1];rfl
  rw[Array.getD_eq_getD_getElem?,Array.getElem?_eq_none U];exact cz σ
theorem sh (hm:P.follows .mixedOrders=true){N i:Nat}{c:Code}(hc:xI c=true){Q:Exit->Act->World->Prop}{fr:Fr}{h:AH}{ts:List (Nat×Value)}{n next1:Nat}{keep:List (Nat×AO)}
  (hf:vV (pL n ts) next1 keep (eQ P (calls P (code P N)) (fN c) ((fN c).toList.take i) fr h)=true) (hts:aU (λp=>Nat.blt p.1 n) ts=true){frE:Fr}{hE:AH}
  (hf2:eQ P (calls P (code P N)) (fN c) ((fN c).toList.drop i) (pL n ts) (zT next1 keep)=η (frE,hE))
  {a:Act}(hr:HR P σ h w) (hA:AR σ fr a){B:Nat}(hfar:F5 B σ) (hB:B<=w.heap.size)
  (hQ:∀σ' a' w',HR P σ' hE w'->AR σ' frE a'->F5 B σ'->Below B w w'->(vW c).wp P Q a' w'):c.wp P Q a w:=by
 rw[E4 hc];refine wp_seq (wp_region ?_);have hcall:=iC (oG hm N);generalize hops:fN c=ops at hf hf2;have hlist:∀(os:List Oper) (k:Nat),os <+: ops.toList.drop k->(List.range' k os.length).map (λi=>ops[i]?)=os.map some:=by
  intro os
  induction os with
  | nil=>intro k _;rfl
  | cons o os ih=>
   intro k hk;simp only[List.length_cons,List.range'_succ,List.map_cons];obtain⟨t,ht⟩:=hk;have h1:ops.toList[k]? = η o:=by
    have:(ops.toList.drop k)[0]? = η o:=by rw[<-ht];rfl
    simpa using this
   rw[ih (k+1) ⟨t,by rw[<-List.drop_drop,<-ht];simp⟩]
   congr 1
   simpa using h1
 have hsplit:List.range ops.size=List.range' 0 (min i ops.size) ++ List.range' (min i ops.size) (ops.size - min i ops.size):=by
  rw[List.range_eq_range'];have:=@List.range'_append_1 0 (min i ops.size) (ops.size - min i ops.size);rw[Nat.zero_add]at this;rw[this]
  congr 1;omega
 rw[hsplit];cases h1:eQ P (calls P (code P N)) ops (ops.toList.take i) fr h with
 | none=>rw[h1]at hf;cases hf
 | some fh=>
  obtain⟨fr1,h1'⟩:=fh;rw[h1]at hf;have hm1:(List.range' 0 (min i ops.size)).map (λi=>ops[i]?)=(ops.toList.take i).map some:=by
   have:=hlist (ops.toList.take i) 0 (List.take_prefix i _)
   rwa [List.length_take,Array.length_toList]at this
  have hm2:(List.range' (min i ops.size) (ops.size - min i ops.size)).map (λi=>ops[i]?)=(ops.toList.drop i).map some:=by
   have hd:ops.toList.drop (min i ops.size)=ops.toList.drop i:=by
    rcases Nat.le_total i ops.size with y | y
    .rw[Nat.min_eq_left y]
    .rw[Nat.min_eq_right y,List.drop_eq_nil_of_le (by simp),List.drop_eq_nil_of_le (by simpa using y)]
   have:=hlist (ops.toList.drop i) (min i ops.size) (by rw[hd];exact List.prefix_refl _)
   rwa [List.length_drop,Array.length_toList,show ops.size - i=ops.size - min i ops.size by omega]at this
  refine oO hcall _ _ hm1 hr hA h1 (λσ1 a1 w1 hs1 hA1=>?_);obtain⟨f1,b1⟩:=hs1.far hfar hB;obtain⟨hr2,hA2⟩:=Bb hf hts hs1.hr hA1;refine eU hcall _ _ hm2 hr2 hA2 hf2 (λσ2 a2 w2 hs2 hA3=>?_);obtain⟨f2,b2⟩:=hs2.far f1 (Nat.le_trans hB b1.size);exact hQ σ2 a2 w2 hs2.hr hA3 f2 (b1.trans b2)
end
end Eva
end
section
open Go Go.RowKit
namespace Eva
noncomputable def ua:Code:=Tryz.f4.body.getD .skip
noncomputable def oP:Code:=(bF 4 ua).2
noncomputable def oQ:Code:=(bF 5 oP).2
noncomputable def gP:Code:=(bF 3 oQ).2
def E5:List (Nat×Value):=[
(0,.bool false),
(1,μ (η ⟨134,0,ν⟩)),
(2,μ (η ⟨135,0,ν⟩)),
(3,ω (η ⟨137,0,ν⟩) 1 2),
(4,μ (η ⟨228,0,ν⟩)),
(5,μ (η ⟨409,0,ν⟩)),
(6,ω (η ⟨607,0,ν⟩) 2 4),
(7,.bool true),
(18,.tuple #[.agg #[ω (η ⟨129,0,ν⟩) 5 11,ω (η ⟨131,0,ν⟩) 5 11,ω (η ⟨110,0,ν⟩) 1 2],.agg #[ω (η ⟨133,0,ν⟩) 1 2]]),
(19,.tuple #[.agg #[ω (η ⟨129,0,ν⟩) 5 11,ω (η ⟨131,0,ν⟩) 5 11,ω (η ⟨110,0,ν⟩) 1 2],.agg #[ω (η ⟨133,0,ν⟩) 1 2]]),
(20,.agg #[ω (η ⟨129,0,ν⟩) 5 11,ω (η ⟨131,0,ν⟩) 5 11,ω (η ⟨110,0,ν⟩) 1 2]),
(21,.agg #[ω (η ⟨133,0,ν⟩) 1 2]),
(22,.agg #[ξ ψ 1,ξ ψ 2,ξ ψ 0,ξ ψ 0,ξ ψ 19]),
(23,ω (η ⟨136,0,ν⟩) 1 2),
(24,ω (η ⟨137,0,ν⟩) 1 2),
(25,.tuple #[μ (η ⟨228,0,ν⟩),μ (η ⟨409,0,ν⟩),ω (η ⟨607,0,ν⟩) 2 4,.bool true]),
(26,.agg #[ω (η ⟨129,0,ν⟩) 5 11,ω (η ⟨131,0,ν⟩) 5 11,ω (η ⟨110,0,ν⟩) 1 2]),
(27,.agg #[ω (η ⟨133,0,ν⟩) 1 2]),
(28,ω (η ⟨137,0,ν⟩) 1 2),
(29,.tuple #[μ (η ⟨228,0,ν⟩),μ (η ⟨409,0,ν⟩),ω (η ⟨607,0,ν⟩) 2 4,.bool true]),
(30,μ (η ⟨228,0,ν⟩)),
(31,μ (η ⟨409,0,ν⟩)),
(32,ω (η ⟨607,0,ν⟩) 2 4),
(33,.bool true)]
def Bd:List (Nat×AO):=[
(109,.cells [ξ ψ 1] 2 false),
(110,.cells [ξ ψ 1,ξ ψ 1,ω (η ⟨109,0,ν⟩) 1 2] 128 false),
(129,.cells [ξ ψ 0,ξ ψ 0,ξ ψ 0,ξ ψ 1,ξ ψ 0,ξ ψ 0,ξ ψ 2,ξ ψ 0,ξ ψ 0,ξ ψ 3,ξ ψ 0,ξ ψ 0,ξ ψ 4,ξ ψ 0,ξ ψ 0] 130 false),
(131,.cells [ξ ψ 0,ξ ψ 1,ξ ψ 9,ξ ψ 1,ξ ψ 2,ξ ψ 9,ξ ψ 2,ξ ψ 3,ξ ψ 9,ξ ψ 3,ξ ψ 4,ξ ψ 9,ξ ψ 4,ξ ψ 0,ξ ψ 9] 124 false),
(134,.cells [ω (η ⟨129,0,ν⟩) 5 11,ω (η ⟨131,0,ν⟩) 5 11,ω (η ⟨110,0,ν⟩) 1 2] 26 false),
(216,.cells [ξ ψ 1,ξ ψ 1,ω (η ⟨219,0,ν⟩) 1 3] 271 false),
(219,.cells [ξ ψ 1] 2 false),
(221,.cells [ξ ψ 0,ξ ψ 0,ξ ψ 0,ξ ψ 1,ξ ψ 0,ξ ψ 0,ξ ψ 2,ξ ψ 0,ξ ψ 0,ξ ψ 3,ξ ψ 0,ξ ψ 0,ξ ψ 4,ξ ψ 0,ξ ψ 0] 272 false),
(223,.cells [ξ ψ 0,ξ ψ 1,ξ ψ 9,ξ ψ 1,ξ ψ 2,ξ ψ 9,ξ ψ 2,ξ ψ 3,ξ ψ 19,ξ ψ 3,ξ ψ 4,ξ ψ 9,ξ ψ 4,ξ ψ 0,ξ ψ 9] 282 false),
(225,.cells [ω (η ⟨251,0,ν⟩) 1 3,ω (η ⟨231,0,ν⟩) 1 3,ω (η ⟨236,0,ν⟩) 1 3,ω (η ⟨241,0,ν⟩) 1 3,ω (η ⟨246,0,ν⟩) 1 3] 48 false),
(226,.cells [ω (η ⟨233,0,ν⟩) 1 3,ω (η ⟨238,0,ν⟩) 1 3,ω (η ⟨243,0,ν⟩) 1 3,ω (η ⟨248,0,ν⟩) 1 3,ω (η ⟨253,0,ν⟩) 1 3] 48 false),
(227,.cells [ξ ψ 0,ξ ψ 0,ξ ψ 0,ξ ψ 0,ξ ψ 0,ξ ψ 0,ξ ψ 0,ξ ψ 0,ξ ψ 0,ξ ψ 0] 372 false),
(228,.cells [ω (η ⟨221,0,ν⟩) 5 11,ω (η ⟨223,0,ν⟩) 5 11,ω (η ⟨216,0,ν⟩) 1 2,ω (η ⟨225,0,ν⟩) 5 10,ω (η ⟨226,0,ν⟩) 5 10,ω (η ⟨227,0,ν⟩) 5 10] 213 false),
(231,.cells [ξ ψ 0] 3 false),
(233,.cells [ξ ψ 0] 3 false),
(236,.cells [ξ ψ 1] 3 false),
(238,.cells [ξ ψ 1] 3 false),
(241,.cells [ξ ψ 2] 3 false),
(243,.cells [ξ ψ 2] 3 false),
(246,.cells [ξ ψ 3] 3 false),
(248,.cells [ξ ψ 3] 3 false),
(251,.cells [ξ ψ 4] 3 false),
(253,.cells [ξ ψ 4] 3 false),
(383,.cells [ξ ψ 0,ξ ψ 0,ξ ψ 1,ξ ψ 1,ξ ψ 1] 3 false),
(385,.cells [ω (η ⟨383,0,ν⟩) 5 11] 48 false),
(391,.cells [ω (η ⟨394,0,ν⟩) 2 4] 198 false),
(394,.cells [ω (η ⟨406,0,ν⟩) 1 3,ω (η ⟨404,0,ν⟩) 1 3,ω (η ⟨402,0,ν⟩) 1 3,ω (η ⟨408,0,ν⟩) 1 3] 113 false),
(402,.cells [ξ ψ 1] 3 false),
(404,.cells [ξ ψ 1] 3 false),
(406,.cells [ξ ψ 4] 3 false),
(408,.cells [ξ ψ 4] 3 false),
(409,.cells [ω (η ⟨385,0,ν⟩) 1 3,ω (η ⟨427,0,ν⟩) 5 11,ω (η ⟨429,0,ν⟩) 5 11,ω (η ⟨391,0,ν⟩) 1 2,ω (η ⟨434,0,ν⟩) 1 3,ξ ψ 2] 193 false),
(427,.cells [ξ ψ 0,ξ ψ 1,ξ ψ 2,ξ ψ 3,ξ ψ 4] 3 false),
(429,.cells [ξ ψ 1,ξ ψ 2,ξ ψ 3,ξ ψ 4,ξ ψ 0] 3 false),
(430,.cells [ξ ψ 0,ξ ψ 1] 3 false),
(434,.cells [ω (η ⟨430,0,ν⟩) 2 4] 48 false),
(607,.cells [ξ ψ 11,ξ ψ 31] 2 false)]
def Be:Nat:=674
def E6:List (Nat×Value):=[
(0,.bool false),
(1,μ (η ⟨134,0,ν⟩)),
(2,μ (η ⟨135,0,ν⟩)),
(3,ω (η ⟨137,0,ν⟩) 1 2),
(4,μ (η ⟨228,0,ν⟩)),
(5,μ (η ⟨409,0,ν⟩)),
(6,ω (η ⟨607,0,ν⟩) 2 4),
(7,.bool true),
(8,ξ ψ 40),
(9,.nilIface),
(10,μ (η ⟨789,0,ν⟩)),
(11,.nilIface),
(12,μ (η ⟨798,0,ν⟩)),
(13,μ (η ⟨996,0,ν⟩)),
(14,.nilIface),
(18,.tuple #[.agg #[ω (η ⟨129,0,ν⟩) 5 11,ω (η ⟨131,0,ν⟩) 5 11,ω (η ⟨110,0,ν⟩) 1 2],.agg #[ω (η ⟨133,0,ν⟩) 1 2]]),
(19,.tuple #[.agg #[ω (η ⟨129,0,ν⟩) 5 11,ω (η ⟨131,0,ν⟩) 5 11,ω (η ⟨110,0,ν⟩) 1 2],.agg #[ω (η ⟨133,0,ν⟩) 1 2]]),
(20,.agg #[ω (η ⟨129,0,ν⟩) 5 11,ω (η ⟨131,0,ν⟩) 5 11,ω (η ⟨110,0,ν⟩) 1 2]),
(21,.agg #[ω (η ⟨133,0,ν⟩) 1 2]),
(22,.agg #[ξ ψ 1,ξ ψ 2,ξ ψ 0,ξ ψ 0,ξ ψ 19]),
(23,ω (η ⟨136,0,ν⟩) 1 2),
(24,ω (η ⟨137,0,ν⟩) 1 2),
(25,.tuple #[μ (η ⟨228,0,ν⟩),μ (η ⟨409,0,ν⟩),ω (η ⟨607,0,ν⟩) 2 4,.bool true]),
(26,.agg #[ω (η ⟨129,0,ν⟩) 5 11,ω (η ⟨131,0,ν⟩) 5 11,ω (η ⟨110,0,ν⟩) 1 2]),
(27,.agg #[ω (η ⟨133,0,ν⟩) 1 2]),
(28,ω (η ⟨137,0,ν⟩) 1 2),
(29,.tuple #[μ (η ⟨228,0,ν⟩),μ (η ⟨409,0,ν⟩),ω (η ⟨607,0,ν⟩) 2 4,.bool true]),
(30,μ (η ⟨228,0,ν⟩)),
(31,μ (η ⟨409,0,ν⟩)),
(32,ω (η ⟨607,0,ν⟩) 2 4),
(33,.bool true),
(34,.bool true),
(35,.bool false),
(36,.tuple #[ξ ψ 40,.nilIface]),
(37,μ (η ⟨228,0,ν⟩)),
(38,μ (η ⟨409,0,ν⟩)),
(39,ω (η ⟨607,0,ν⟩) 2 4),
(40,.tuple #[ξ ψ 40,.nilIface]),
(41,ξ ψ 40),
(42,.nilIface),
(43,.tuple #[.agg #[ω (η ⟨788,0,ν⟩) 4 9,ξ ψ 40,ξ ψ 0],.nilIface]),
(44,μ (η ⟨228,0,ν⟩)),
(45,μ (η ⟨409,0,ν⟩)),
(46,ω (η ⟨607,0,ν⟩) 2 4),
(47,.tuple #[.agg #[ω (η ⟨788,0,ν⟩) 4 9,ξ ψ 40,ξ ψ 0],.nilIface]),
(48,.agg #[ω (η ⟨788,0,ν⟩) 4 9,ξ ψ 40,ξ ψ 0]),
(49,.nilIface),
(50,.agg #[ξ ψ 3,ξ ψ 2]),
(51,.agg #[ξ ψ 1,ξ ψ 3]),
(52,ω (η ⟨790,0,ν⟩) 2 4),
(53,.agg #[ξ ψ 0,ξ ψ 5,ξ ψ 60,ω (η ⟨790,0,ν⟩) 2 4]),
(54,.agg #[ξ ψ 0,ξ ψ 5,ξ ψ 60,ω (η ⟨797,0,ν⟩) 2 5]),
(55,.tuple #[.agg #[ω (η ⟨993,0,ν⟩) 1 2,ξ ψ 60],.nilIface]),
(56,μ (η ⟨228,0,ν⟩)),
(57,μ (η ⟨409,0,ν⟩)),
(58,ω (η ⟨607,0,ν⟩) 2 4),
(59,.agg #[ξ ψ 0,ξ ψ 5,ξ ψ 60,ω (η ⟨797,0,ν⟩) 2 5]),
(60,.tuple #[.agg #[ω (η ⟨993,0,ν⟩) 1 2,ξ ψ 60],.nilIface]),
(61,.agg #[ω (η ⟨993,0,ν⟩) 1 2,ξ ψ 60]),
(62,.nilIface)]
def Bg:List (Nat×AO):=[
(109,.cells [ξ ψ 1] 2 false),
(110,.cells [ξ ψ 1,ξ ψ 1,ω (η ⟨109,0,ν⟩) 1 2] 128 false),
(129,.cells [ξ ψ 0,ξ ψ 0,ξ ψ 0,ξ ψ 1,ξ ψ 0,ξ ψ 0,ξ ψ 2,ξ ψ 0,ξ ψ 0,ξ ψ 3,ξ ψ 0,ξ ψ 0,ξ ψ 4,ξ ψ 0,ξ ψ 0] 130 false),
(131,.cells [ξ ψ 0,ξ ψ 1,ξ ψ 9,ξ ψ 1,ξ ψ 2,ξ ψ 9,ξ ψ 2,ξ ψ 3,ξ ψ 9,ξ ψ 3,ξ ψ 4,ξ ψ 9,ξ ψ 4,ξ ψ 0,ξ ψ 9] 124 false),
(134,.cells [ω (η ⟨129,0,ν⟩) 5 11,ω (η ⟨131,0,ν⟩) 5 11,ω (η ⟨110,0,ν⟩) 1 2] 26 false),
(788,.cells [ξ ψ 0,ξ ψ 1,ξ ψ 2,ξ ψ 3] 3 false),
(789,.cells [ω (η ⟨788,0,ν⟩) 4 9,ξ ψ 40,ξ ψ 0] 66 false),
(993,.cells [ω (η ⟨995,0,ν⟩) 2 5] 48 false),
(995,.cells [ξ ψ 2,ξ ψ 1] 3 false),
(996,.cells [ω (η ⟨993,0,ν⟩) 1 2,ξ ψ 60] 79 false)]
def Bh:Nat:=997
def Bi:List (Nat×Value):=[
(0,.bool false),
(1,μ (η ⟨134,0,ν⟩)),
(2,μ (η ⟨135,0,ν⟩)),
(3,ω (η ⟨137,0,ν⟩) 1 2),
(4,μ (η ⟨228,0,ν⟩)),
(5,μ (η ⟨409,0,ν⟩)),
(6,ω (η ⟨607,0,ν⟩) 2 4),
(7,.bool true),
(8,ξ ψ 40),
(9,.nilIface),
(10,μ (η ⟨789,0,ν⟩)),
(11,.nilIface),
(12,μ (η ⟨798,0,ν⟩)),
(13,μ (η ⟨996,0,ν⟩)),
(14,.nilIface),
(15,.string ⟨#[53,50,52,101,52,52,51,49,48,49,48,53,48,53,48,49,48,49,48,50,48,48,48,48,48,48,48,50,48,48,48,48,48,50,48,48,48,48,48,50,48,48,48,48,48,50,48,48,48,48,48,48,48,49,48,97,48,49,48,50,48,97,48,50,48,51,48,97,48,51,48,52,48,97,48,52,48,48,48,97,55,49,48,48,52,98,48,48]⟩),
(16,.bool true),
(17,μ (η ⟨1234,0,ν⟩)),
(18,.tuple #[.agg #[ω (η ⟨129,0,ν⟩) 5 11,ω (η ⟨131,0,ν⟩) 5 11,ω (η ⟨110,0,ν⟩) 1 2],.agg #[ω (η ⟨133,0,ν⟩) 1 2]]),
(19,.tuple #[.agg #[ω (η ⟨129,0,ν⟩) 5 11,ω (η ⟨131,0,ν⟩) 5 11,ω (η ⟨110,0,ν⟩) 1 2],.agg #[ω (η ⟨133,0,ν⟩) 1 2]]),
(20,.agg #[ω (η ⟨129,0,ν⟩) 5 11,ω (η ⟨131,0,ν⟩) 5 11,ω (η ⟨110,0,ν⟩) 1 2]),
(21,.agg #[ω (η ⟨133,0,ν⟩) 1 2]),
(22,.agg #[ξ ψ 1,ξ ψ 2,ξ ψ 0,ξ ψ 0,ξ ψ 19]),
(23,ω (η ⟨136,0,ν⟩) 1 2),
(24,ω (η ⟨137,0,ν⟩) 1 2),
(25,.tuple #[μ (η ⟨228,0,ν⟩),μ (η ⟨409,0,ν⟩),ω (η ⟨607,0,ν⟩) 2 4,.bool true]),
(26,.agg #[ω (η ⟨129,0,ν⟩) 5 11,ω (η ⟨131,0,ν⟩) 5 11,ω (η ⟨110,0,ν⟩) 1 2]),
(27,.agg #[ω (η ⟨133,0,ν⟩) 1 2]),
(28,ω (η ⟨137,0,ν⟩) 1 2),
(29,.tuple #[μ (η ⟨228,0,ν⟩),μ (η ⟨409,0,ν⟩),ω (η ⟨607,0,ν⟩) 2 4,.bool true]),
(30,μ (η ⟨228,0,ν⟩)),
(31,μ (η ⟨409,0,ν⟩)),
(32,ω (η ⟨607,0,ν⟩) 2 4),
(33,.bool true),
(34,.bool true),
(35,.bool false),
(36,.tuple #[ξ ψ 40,.nilIface]),
(37,μ (η ⟨228,0,ν⟩)),
(38,μ (η ⟨409,0,ν⟩)),
(39,ω (η ⟨607,0,ν⟩) 2 4),
(40,.tuple #[ξ ψ 40,.nilIface]),
(41,ξ ψ 40),
(42,.nilIface),
(43,.tuple #[.agg #[ω (η ⟨788,0,ν⟩) 4 9,ξ ψ 40,ξ ψ 0],.nilIface]),
(44,μ (η ⟨228,0,ν⟩)),
(45,μ (η ⟨409,0,ν⟩)),
(46,ω (η ⟨607,0,ν⟩) 2 4),
(47,.tuple #[.agg #[ω (η ⟨788,0,ν⟩) 4 9,ξ ψ 40,ξ ψ 0],.nilIface]),
(48,.agg #[ω (η ⟨788,0,ν⟩) 4 9,ξ ψ 40,ξ ψ 0]),
(49,.nilIface),
(50,.agg #[ξ ψ 3,ξ ψ 2]),
(51,.agg #[ξ ψ 1,ξ ψ 3]),
(52,ω (η ⟨790,0,ν⟩) 2 4),
(53,.agg #[ξ ψ 0,ξ ψ 5,ξ ψ 60,ω (η ⟨790,0,ν⟩) 2 4]),
(54,.agg #[ξ ψ 0,ξ ψ 5,ξ ψ 60,ω (η ⟨797,0,ν⟩) 2 5]),
(55,.tuple #[.agg #[ω (η ⟨993,0,ν⟩) 1 2,ξ ψ 60],.nilIface]),
(56,μ (η ⟨228,0,ν⟩)),
(57,μ (η ⟨409,0,ν⟩)),
(58,ω (η ⟨607,0,ν⟩) 2 4),
(59,.agg #[ξ ψ 0,ξ ψ 5,ξ ψ 60,ω (η ⟨797,0,ν⟩) 2 5]),
(60,.tuple #[.agg #[ω (η ⟨993,0,ν⟩) 1 2,ξ ψ 60],.nilIface]),
(61,.agg #[ω (η ⟨993,0,ν⟩) 1 2,ξ ψ 60]),
(62,.nilIface),
(63,.tuple #[.string ⟨#[53,50,52,101,52,52,51,49,48,49,48,53,48,53,48,49,48,49,48,50,48,48,48,48,48,48,48,50,48,48,48,48,48,50,48,48,48,48,48,50,48,48,48,48,48,50,48,48,48,48,48,48,48,49,48,97,48,49,48,50,48,97,48,50,48,51,48,97,48,51,48,52,48,97,48,52,48,48,48,97,55,49,48,48,52,98,48,48]⟩,.bool true]),
(64,.agg #[ω (η ⟨129,0,ν⟩) 5 11,ω (η ⟨131,0,ν⟩) 5 11,ω (η ⟨110,0,ν⟩) 1 2]),
(65,.tuple #[.string ⟨#[53,50,52,101,52,52,51,49,48,49,48,53,48,53,48,49,48,49,48,50,48,48,48,48,48,48,48,50,48,48,48,48,48,50,48,48,48,48,48,50,48,48,48,48,48,50,48,48,48,48,48,48,48,49,48,97,48,49,48,50,48,97,48,50,48,51,48,97,48,51,48,52,48,97,48,52,48,48,48,97,55,49,48,48,52,98,48,48]⟩,.bool true]),
(66,.string ⟨#[53,50,52,101,52,52,51,49,48,49,48,53,48,53,48,49,48,49,48,50,48,48,48,48,48,48,48,50,48,48,48,48,48,50,48,48,48,48,48,50,48,48,48,48,48,50,48,48,48,48,48,48,48,49,48,97,48,49,48,50,48,97,48,50,48,51,48,97,48,51,48,52,48,97,48,52,48,48,48,97,55,49,48,48,52,98,48,48]⟩),
(67,.bool true),
(68,μ (η ⟨1234,0,ν⟩)),
(69,.bool true),
(70,.bool false),
(71,.bool false),
(72,μ (η ⟨1234,0,ν⟩)),
(73,.bool false),
(74,.bool false)]
def xJ:List (Nat×AO):=[
(788,.cells [ξ ψ 0,ξ ψ 1,ξ ψ 2,ξ ψ 3] 3 false),
(789,.cells [ω (η ⟨788,0,ν⟩) 4 9,ξ ψ 40,ξ ψ 0] 66 false),
(993,.cells [ω (η ⟨995,0,ν⟩) 2 5] 48 false),
(995,.cells [ξ ψ 2,ξ ψ 1] 3 false),
(996,.cells [ω (η ⟨993,0,ν⟩) 1 2,ξ ψ 60] 79 false),
(1234,.cells [μ ν,μ ν,ω ν 0 0] 152 false)]
def xK:Nat:=1235
def Bj:List (Nat×Value):=[
(0,.bool false),
(1,μ (η ⟨134,0,ν⟩)),
(2,μ (η ⟨135,0,ν⟩)),
(3,ω (η ⟨137,0,ν⟩) 1 2),
(4,μ (η ⟨228,0,ν⟩)),
(5,μ (η ⟨409,0,ν⟩)),
(6,ω (η ⟨607,0,ν⟩) 2 4),
(7,.bool true),
(8,ξ ψ 40),
(9,.nilIface),
(10,μ (η ⟨789,0,ν⟩)),
(11,.nilIface),
(12,μ (η ⟨798,0,ν⟩)),
(13,μ (η ⟨996,0,ν⟩)),
(14,.nilIface),
(15,.string ⟨#[53,50,52,101,52,52,51,49,48,49,48,53,48,53,48,49,48,49,48,50,48,48,48,48,48,48,48,50,48,48,48,48,48,50,48,48,48,48,48,50,48,48,48,48,48,50,48,48,48,48,48,48,48,49,48,97,48,49,48,50,48,97,48,50,48,51,48,97,48,51,48,52,48,97,48,52,48,48,48,97,55,49,48,48,52,98,48,48]⟩),
(16,.bool true),
(17,μ (η ⟨1234,0,ν⟩)),
(18,.tuple #[.agg #[ω (η ⟨129,0,ν⟩) 5 11,ω (η ⟨131,0,ν⟩) 5 11,ω (η ⟨110,0,ν⟩) 1 2],.agg #[ω (η ⟨133,0,ν⟩) 1 2]]),
(19,.tuple #[.agg #[ω (η ⟨129,0,ν⟩) 5 11,ω (η ⟨131,0,ν⟩) 5 11,ω (η ⟨110,0,ν⟩) 1 2],.agg #[ω (η ⟨133,0,ν⟩) 1 2]]),
(20,.agg #[ω (η ⟨129,0,ν⟩) 5 11,ω (η ⟨131,0,ν⟩) 5 11,ω (η ⟨110,0,ν⟩) 1 2]),
(21,.agg #[ω (η ⟨133,0,ν⟩) 1 2]),
(22,.agg #[ξ ψ 1,ξ ψ 2,ξ ψ 0,ξ ψ 0,ξ ψ 19]),
(23,ω (η ⟨136,0,ν⟩) 1 2),
(24,ω (η ⟨137,0,ν⟩) 1 2),
(25,.tuple #[μ (η ⟨228,0,ν⟩),μ (η ⟨409,0,ν⟩),ω (η ⟨607,0,ν⟩) 2 4,.bool true]),
(26,.agg #[ω (η ⟨129,0,ν⟩) 5 11,ω (η ⟨131,0,ν⟩) 5 11,ω (η ⟨110,0,ν⟩) 1 2]),
(27,.agg #[ω (η ⟨133,0,ν⟩) 1 2]),
(28,ω (η ⟨137,0,ν⟩) 1 2),
(29,.tuple #[μ (η ⟨228,0,ν⟩),μ (η ⟨409,0,ν⟩),ω (η ⟨607,0,ν⟩) 2 4,.bool true]),
(30,μ (η ⟨228,0,ν⟩)),
(31,μ (η ⟨409,0,ν⟩)),
(32,ω (η ⟨607,0,ν⟩) 2 4),
(33,.bool true),
(34,.bool true),
(35,.bool false),
(36,.tuple #[ξ ψ 40,.nilIface]),
(37,μ (η ⟨228,0,ν⟩)),
(38,μ (η ⟨409,0,ν⟩)),
(39,ω (η ⟨607,0,ν⟩) 2 4),
(40,.tuple #[ξ ψ 40,.nilIface]),
(41,ξ ψ 40),
(42,.nilIface),
(43,.tuple #[.agg #[ω (η ⟨788,0,ν⟩) 4 9,ξ ψ 40,ξ ψ 0],.nilIface]),
(44,μ (η ⟨228,0,ν⟩)),
(45,μ (η ⟨409,0,ν⟩)),
(46,ω (η ⟨607,0,ν⟩) 2 4),
(47,.tuple #[.agg #[ω (η ⟨788,0,ν⟩) 4 9,ξ ψ 40,ξ ψ 0],.nilIface]),
(48,.agg #[ω (η ⟨788,0,ν⟩) 4 9,ξ ψ 40,ξ ψ 0]),
(49,.nilIface),
(50,.agg #[ξ ψ 3,ξ ψ 2]),
(51,.agg #[ξ ψ 1,ξ ψ 3]),
(52,ω (η ⟨790,0,ν⟩) 2 4),
(53,.agg #[ξ ψ 0,ξ ψ 5,ξ ψ 60,ω (η ⟨790,0,ν⟩) 2 4]),
(54,.agg #[ξ ψ 0,ξ ψ 5,ξ ψ 60,ω (η ⟨797,0,ν⟩) 2 5]),
(55,.tuple #[.agg #[ω (η ⟨993,0,ν⟩) 1 2,ξ ψ 60],.nilIface]),
(56,μ (η ⟨228,0,ν⟩)),
(57,μ (η ⟨409,0,ν⟩)),
(58,ω (η ⟨607,0,ν⟩) 2 4),
(59,.agg #[ξ ψ 0,ξ ψ 5,ξ ψ 60,ω (η ⟨797,0,ν⟩) 2 5]),
(60,.tuple #[.agg #[ω (η ⟨993,0,ν⟩) 1 2,ξ ψ 60],.nilIface]),
(61,.agg #[ω (η ⟨993,0,ν⟩) 1 2,ξ ψ 60]),
(62,.nilIface),
(63,.tuple #[.string ⟨#[53,50,52,101,52,52,51,49,48,49,48,53,48,53,48,49,48,49,48,50,48,48,48,48,48,48,48,50,48,48,48,48,48,50,48,48,48,48,48,50,48,48,48,48,48,50,48,48,48,48,48,48,48,49,48,97,48,49,48,50,48,97,48,50,48,51,48,97,48,51,48,52,48,97,48,52,48,48,48,97,55,49,48,48,52,98,48,48]⟩,.bool true]),
(64,.agg #[ω (η ⟨129,0,ν⟩) 5 11,ω (η ⟨131,0,ν⟩) 5 11,ω (η ⟨110,0,ν⟩) 1 2]),
(65,.tuple #[.string ⟨#[53,50,52,101,52,52,51,49,48,49,48,53,48,53,48,49,48,49,48,50,48,48,48,48,48,48,48,50,48,48,48,48,48,50,48,48,48,48,48,50,48,48,48,48,48,50,48,48,48,48,48,48,48,49,48,97,48,49,48,50,48,97,48,50,48,51,48,97,48,51,48,52,48,97,48,52,48,48,48,97,55,49,48,48,52,98,48,48]⟩,.bool true]),
(66,.string ⟨#[53,50,52,101,52,52,51,49,48,49,48,53,48,53,48,49,48,49,48,50,48,48,48,48,48,48,48,50,48,48,48,48,48,50,48,48,48,48,48,50,48,48,48,48,48,50,48,48,48,48,48,48,48,49,48,97,48,49,48,50,48,97,48,50,48,51,48,97,48,51,48,52,48,97,48,52,48,48,48,97,55,49,48,48,52,98,48,48]⟩),
(67,.bool true),
(68,μ (η ⟨1234,0,ν⟩)),
(69,.bool true),
(70,.bool false),
(71,.bool false),
(72,μ (η ⟨1234,0,ν⟩)),
(73,.bool false),
(74,.bool false),
(75,.nilIface),
(76,.bool true),
(77,.bool true),
(78,ξ ψ 40),
(79,.bool true),
(80,.bool true),
(81,.bool true),
(82,.nilIface),
(83,.bool true),
(84,.bool true),
(85,.bool true),
(86,μ (η ⟨789,0,ν⟩)),
(87,ω (η ⟨788,0,ν⟩) 4 9),
(88,ω (η ⟨1235,0,ν⟩) 4 8),
(89,.bool true),
(90,.bool true),
(91,.bool true),
(92,.nilIface),
(93,.bool true),
(94,.bool true),
(95,.bool true),
(96,μ (η ⟨996,1,ν⟩)),
(97,ξ ψ 60),
(98,.bool true),
(99,.bool true),
(100,.bool true),
(101,μ (η ⟨996,0,ν⟩)),
(102,ω (η ⟨993,0,ν⟩) 1 2),
(103,ω (η ⟨1236,0,ν⟩) 2 4),
(104,ω (η ⟨1237,0,ν⟩) 1 2),
(105,.bool true),
(106,.bool true),
(107,.bool true),
(108,μ (η ⟨1234,0,ν⟩)),
(109,.string ⟨#[53,50,52,101,52,52,51,49,48,49,48,53,48,53,48,49,48,49,48,50,48,48,48,48,48,48,48,50,48,48,48,48,48,50,48,48,48,48,48,50,48,48,48,48,48,50,48,48,48,48,48,48,48,49,48,97,48,49,48,50,48,97,48,50,48,51,48,97,48,51,48,52,48,97,48,52,48,48,48,97,55,49,48,48,52,98,48,48]⟩),
(110,.string ⟨#[108,111,97,100,32,53,50,52,101,52,52,51,49,48,49,48,53,48,53,48,49,48,49,48,50,48,48,48,48,48,48,48,50,48,48,48,48,48,50,48,48,48,48,48,50,48,48,48,48,48,50,48,48,48,48,48,48,48,49,48,97,48,49,48,50,48,97,48,50,48,51,48,97,48,51,48,52,48,97,48,52,48,48,48,97,55,49,48,48,52,98,48,48]⟩),
(111,.string ⟨#[111,107,32,53,32,53,32,49]⟩),
(112,.bool true),
(113,.bool true),
(114,.bool true),
(115,μ (η ⟨1234,0,ν⟩))]
def xL:List (Nat×AO):=[
(1234,.cells [μ (η ⟨1372,0,ν⟩),μ ν,ω ν 0 0] 152 false),
(1360,.cells [ξ ψ 1,ξ ψ 1,ω (η ⟨1363,0,ν⟩) 1 3] 271 false),
(1363,.cells [ξ ψ 1] 2 false),
(1365,.cells [ξ ψ 0,ξ ψ 0,ξ ψ 0,ξ ψ 1,ξ ψ 0,ξ ψ 0,ξ ψ 2,ξ ψ 0,ξ ψ 0,ξ ψ 3,ξ ψ 0,ξ ψ 0,ξ ψ 4,ξ ψ 0,ξ ψ 0] 272 false),
(1367,.cells [ξ ψ 0,ξ ψ 1,ξ ψ 9,ξ ψ 1,ξ ψ 2,ξ ψ 9,ξ ψ 2,ξ ψ 3,ξ ψ 9,ξ ψ 3,ξ ψ 4,ξ ψ 9,ξ ψ 4,ξ ψ 0,ξ ψ 9] 282 false),
(1369,.cells [ω (η ⟨1395,0,ν⟩) 1 3,ω (η ⟨1375,0,ν⟩) 1 3,ω (η ⟨1380,0,ν⟩) 1 3,ω (η ⟨1385,0,ν⟩) 1 3,ω (η ⟨1390,0,ν⟩) 1 3] 48 false),
(1370,.cells [ω (η ⟨1377,0,ν⟩) 1 3,ω (η ⟨1382,0,ν⟩) 1 3,ω (η ⟨1387,0,ν⟩) 1 3,ω (η ⟨1392,0,ν⟩) 1 3,ω (η ⟨1397,0,ν⟩) 1 3] 48 false),
(1371,.cells [ξ ψ 0,ξ ψ 0,ξ ψ 0,ξ ψ 0,ξ ψ 0,ξ ψ 0,ξ ψ 0,ξ ψ 0,ξ ψ 0,ξ ψ 0] 372 false),
(1372,.cells [ω (η ⟨1365,0,ν⟩) 5 11,ω (η ⟨1367,0,ν⟩) 5 11,ω (η ⟨1360,0,ν⟩) 1 2,ω (η ⟨1369,0,ν⟩) 5 10,ω (η ⟨1370,0,ν⟩) 5 10,ω (η ⟨1371,0,ν⟩) 5 10] 213 false),
(1375,.cells [ξ ψ 0] 3 false),
(1377,.cells [ξ ψ 0] 3 false),
(1380,.cells [ξ ψ 1] 3 false),
(1382,.cells [ξ ψ 1] 3 false),
(1385,.cells [ξ ψ 2] 3 false),
(1387,.cells [ξ ψ 2] 3 false),
(1390,.cells [ξ ψ 3] 3 false),
(1392,.cells [ξ ψ 3] 3 false),
(1395,.cells [ξ ψ 4] 3 false),
(1397,.cells [ξ ψ 4] 3 false)]
def xM:Nat:=1398
end Eva
end
end Go.Proofs.YtmbadhdpcdbdbaaGreatDoor
