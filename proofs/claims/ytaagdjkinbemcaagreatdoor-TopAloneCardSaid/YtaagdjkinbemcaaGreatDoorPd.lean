/-
Lemmas for TopAlone. No condition.
-/
import Derived.Test.YtaagdjkinbemcaaGreatDoorPb
import Derived.Below
import Derived.Test.YtaagdjkinbemcaaGreatDoorProg
import Derived.KernelRfl
namespace Go.Proofs.YtaagdjkinbemcaaGreatDoor
open _root_.Go.IntKind renaming i64->ξ
open _root_.Go.Value renaming int->ω,pointer->ν,slice->Y
open _root_.Option renaming none->η,some->ψ
set_option linter.unusedVariables false
set_option linter.unusedSimpArgs false
set_option linter.unusedSectionVars false
set_option linter.unnecessarySimpa false
section
open Go Go.RowKit
namespace Eva
noncomputable section
def CA (next:Nat):List (Nat×AO)->AH
 | []=>⟨next,.nil⟩
 | p :: l=>(CA next l).put p.1 p.2
def IC:List (Nat×Value)->Tr Value
 | []=>.nil
 | p :: l=>(IC l).set p.1 (ψ p.2)
def rq (n:Nat) (l:List (Nat×Value)):Fr:=⟨n,IC l⟩
def Bw:List (Value×Value×Nat)->List (Value×Value×Nat)->Bool
 | [],[]=>true
 | (k,v,b) :: l,(k',v',b') :: m=>cond (EY 6 k k' && EY 6 v v' && Nat.beq b b') (Bw l m) false
 | _,_=>false
def HF:AO->AO->Bool
 | .cells c e f,.cells c' e' f'=>ry (EY 6) c c' && Nat.beq e e' && (f == f')
 | .map es n,.map es' n'=>Bw es es' && Nat.beq n n'
 | _,_=>false
def wf:Option Value->Option Value->Bool
 | none,η=>true
 | some u,ψ v=>EY 6 u v
 | _,_=>false
def wg (x:Option AO) (o:AO):Bool:=
 match x with
 | some p=>HF p o
 | none=>false
def DA (k:Fr->AH->Option FH):R->Option FH
 | some (.normal,fr,h)=>k fr h
 | _=>η
def yr (P:Program) (N:Nat) (cs:List Code):Fr->AH->Option FH:=
 List.rec (motive:=λ_=>Fr->AH->Option FH) (λfr h=>ψ (fr,h)) (λc _ ih fr h=>DA ih (code P N c fr h)) cs
def bK:Nat->Code->List Code×Code
 | 0,c=>([],c)
 | n+1,.seq a b=>(a :: (bK n b).1,(bK n b).2)
 | _+1,c=>([],c)
def yu (fr1:Fr) (next1:Nat) (keep:List (Nat×AO)):Option FH->Bool
 | some (fr,h)=>Nat.beq fr.n fr1.n && Nat.beq h.next next1 && aV (λt=>wf (fr.get t) (fr1.get t)) (List.range fr1.n) && aV (λp=>wg (h.get p.1) p.2) keep
 | none=>false
end
section
variable {P:Program}{σ:aH}{w:World}
theorem lL:∀(n:Nat) (c:Code),(bK n c).1.foldr Code.seq (bK n c).2=c
 | 0,c=>rfl
 | n+1,c=>by
  unfold bK;cases c with
  | seq a b=>simp only[List.foldr_cons];rw[lL n b]
  | _=>rfl
theorem zR:∀(l m:List (Value×Value×Nat)),Bw l m=true->l=m
 | [],[],_=>rfl
 | [],_ :: _,h=>by simp[Bw]at h
 | _ :: _,[],h=>by simp[Bw]at h
 | (k,v,b) :: l,(k',v',b') :: m,h=>by
  unfold Bw at h;obtain⟨h1,h2⟩:=em h;obtain⟨h3,h4⟩:=ak h1;obtain⟨h5,h6⟩:=ak h3;rw[ge 6 _ _ h5,ge 6 _ _ h6,aq h4,zR l m h2]
theorem FL {x y:AO}(h:HF x y=true):x=y:=by
 unfold HF at h
 split at h
 .obtain⟨h1,h2⟩:=ak h;obtain⟨h3,h4⟩:=ak h1;rw[jz (ge 6) _ _ h3,aq h4,beq_iff_eq.1 h2]
 .obtain⟨h1,h2⟩:=ak h;rw[zR _ _ h1,aq h2]
 .cases h
theorem wh {x y:Option Value}(h:wf x y=true):x=y:=by
 unfold wf at h
 split at h
 .rfl
 .rw[ge 6 _ _ h]
 .cases h
theorem wm {x:Option AO}{o:AO}(h:wg x o=true):x=ψ o:=by
 unfold wg at h
 split at h
 .rw[FL h]
 .cases h
theorem qj (next:Nat):∀l,(CA next l).next=next
 | []=>rfl
 | p :: l=>qj next l
theorem ux {next:Nat}:∀(l:List (Nat×AO)){n:Nat}{o:AO},(CA next l).get n=ψ o->(n,o)∈l
 | [],n,o,h=>by cases h
 | p :: l,n,o,h=>by
  by_cases e:p.1=n
  .subst e;rw[CA,AH.get_put]at h;cases h;simp
  .rw[CA,AH.get_put_ne _ _ e]at h;exact List.mem_cons_of_mem _ (ux l h)
theorem HR.let_go {h hk:AH}(hr:HR P σ h w) (hn:hk.next=h.next) (hle:∀n o,hk.get n=ψ o->h.get n=ψ o):HR P σ hk w:=
 ⟨λn b x=>by rw[hn];exact hr.lt n b x,λn b o x y=>hr.obj n b o x (hle n o y),λn m b o p x1 x2 y1 y2=>hr.inj n m b o p x1 x2 (hle n o y1) (hle m p y2),(λn hx=>by
  cases hg:hk.get n with
  | none=>rfl
  | some o=>have:=hle n o hg;rw[hr.none n (by rw[<-hn];exact hx)]at this;cases this),hr.inv.step (λ_ _ _=>rfl) (λn b o x y=>.inl ⟨n,x,hle n o y⟩)⟩
def ID (B:Nat) (σ:aH):Prop:=∀n b,σ n=ψ b->B<=b
structure im (B:Nat) (w w':World):Prop extends Below B w w' where
 drawn:w.drawn<=w'.drawn
theorem im.trans {B:Nat}{a b c:World}(h:im B a b) (k:im B b c):im B a c:=⟨h.toBelow.trans k.toBelow,Nat.le_trans h.drawn k.drawn⟩
theorem St.far {h h':AH}{w':World}{σ':aH}{B:Nat}(s:St P σ h w σ' h' w') (hf:ID B σ) (hB:B<=w.heap.size):ID B σ'/\im B w w':=by
 refine⟨λn b hb=>?_,⟨⟨s.os,s.tape,s.output.1,s.size,λb hb=>s.frame b U λn hn=>by have:=hf n b hn;omega⟩,s.output.2⟩⟩;cases hq:σ n with
 | none=>
  rcases(s.new n b hb hq).2 with y | ⟨m,y⟩
  .omega
  .exact hf m b y
 | some c=>
  have:=(s.ext n c hq).1;rw[hb]at this;cases this;exact hf n b hq
theorem qk (hm:P.follows .mixedOrders=true){N:Nat}{rest:Code}{Q:Exit->Act->World->Prop}{frE:Fr}{hE:AH}:∀(cs:List Code){σ:aH}{w:World}{fr:Fr}{h:AH}{a:Act},yr P N cs fr h=ψ (frE,hE)->
  HR P σ h w->AR σ fr a->(∀σ' a' w',St P σ h w σ' hE w'->AR σ' frE a'->rest.wp P Q a' w')->(cs.foldr Code.seq rest).wp P Q a w
 | [],σ,w,fr,h,a,hc,hr,hA,hQ=>by
  have:ψ (fr,h)=ψ (frE,hE):=hc;cases this;exact hQ σ a w (St.refl hr) hA
 | c :: cs,σ,w,fr,h,a,hc,hr,hA,hQ=>by
  have hc':DA (yr P N cs) (code P N c fr h)=ψ (frE,hE):=hc;unfold DA at hc'
  split at hc'
  .rename_i fr1 h1 he;refine wp_seq (ij hm N c fr h .normal fr1 h1 he σ w a _ hr hA (λx σ1 a1 w1 hx hs hA1=>?_));cases x <;>first | exact hx.elim | skip
   exact qk hm cs hc' hs.hr hA1 (λσ2 a2 w2 hs2 hA2=>hQ σ2 a2 w2 (hs.trans hs2) hA2)
  .cases hc'
theorem kx (hm:P.follows .mixedOrders=true){N:Nat}{cs:List Code}{rest:Code}{Q:Exit->Act->World->Prop}{fr:Fr}{h:AH}{ts:List (Nat×Value)}{n next1:Nat}{keep:List (Nat×AO)}
  (hf:yu (rq n ts) next1 keep (yr P N cs fr h)=true) (hts:aV (λp=>Nat.blt p.1 n) ts=true){a:Act}(hr:HR P σ h w) (hA:AR σ fr a){B:Nat}(hfar:ID B σ) (hB:B<=w.heap.size)
  (hQ:∀σ' a' w',HR P σ' (CA next1 keep) w'->AR σ' (rq n ts) a'->ID B σ'->im B w w'->rest.wp P Q a' w'):(cs.foldr Code.seq rest).wp P Q a w:=by
 cases hrun:yr P N cs fr h with
 | none=>rw[hrun]at hf;cases hf
 | some fh=>
  obtain⟨frE,hE⟩:=fh;rw[hrun]at hf;have hf':(Nat.beq frE.n (rq n ts).n && Nat.beq hE.next next1 && aV (λt=>wf (frE.get t) ((rq n ts).get t)) (List.range (rq n ts).n) && aV (λp=>wg (hE.get p.1) p.2) keep)=true:=hf;obtain⟨h1,h4⟩:=ak hf';obtain⟨h1,h3⟩:=ak h1;obtain⟨h1,h2⟩:=ak h1;have h1:=aq h1;have h2:=aq h2;refine qk hm cs hrun hr hA (λσ' a' w' hs hA'=>?_);obtain⟨f1,f2⟩:=hs.far hfar hB;refine hQ σ' a' w' (hs.hr.let_go ((qj _ _).trans h2.symm) λm o hm=>?_) ⟨h1.symm.trans hA'.n,hA'.d,λt _=>?_⟩ f1 f2
  .exact wm (aY h4 (m,o) (ux keep hm))
  .by_cases ht:t<n
   .have:=wh (aY h3 t (List.mem_range.2 ht));unfold TR;rw[<-this];exact hA'.t t (λx=>x)
   .have hn:(rq n ts).get t=none:=by
     have:∀l:List (Nat×Value),aV (λp=>Nat.blt p.1 n) l=true->(IC l).get t=none:=by
      intro l
      induction l with
      | nil=>intro _;rfl
      | cons p l ih=>
       intro hl;have h5:=dH (aY hl p (by simp));have h6:aV (λp=>Nat.blt p.1 n) l=true:=py λx hx=>aY hl x (by simp[hx]);rw[IC,Tr.get_set_ne _ _ U];exact ih h6
     exact this ts hts
    unfold TR;rw[hn];have hsz:a'.tmps.size=n:=by rw[<-hA'.n,h1];rfl
    rw[Array.getD_eq_getD_getElem?,Array.getElem?_eq_none U];exact cB σ'
end
end Eva
end
section
open Go Go.RowKit
namespace Eva
noncomputable section
def gh:Code->Array Oper
 | .seq (.region _ ops _) _=>ops
 | _=>#[]
def yv:Code->Code
 | .seq _ b=>b
 | c=>c
def zS:Code->Bool
 | .seq (.region _ _ false) _=>true
 | _=>false
def Jc:Code->Nat
 | .seq (.region id _ _) _=>id
 | _=>0
end
section
variable {P:Program}{σ:aH}{w:World}
theorem HG {c:Code}(h:zS c=true):c = .seq (.region (Jc c) (gh c) false) (yv c):=by
 unfold zS at h
 split at h
 .rfl
 .cases h
theorem ql {call:mL}(hcall:dI P call){ops:Array Oper}{Q:Exit->Act->World->Prop}{more:List Nat}:∀(l:List Nat) (os:List Oper){σ:aH}{w:World}{a:Act}{fr fr':Fr}{h h':AH},
  l.map (λi=>ops[i]?)=os.map ψ->HR P σ h w->AR σ fr a->fj P call ops os fr h=ψ (fr',h')->
  (∀σ' a' w',St P σ h w σ' h' w'->AR σ' fr' a'->wpOps P ops Q more a' w')->wpOps P ops Q (l ++ more) a w
 | [],os,σ,w,a,fr,fr',h,h',hl,hr,hA,ho,hQ=>by
  have:os = []:=by cases os <;>simp_all
  subst this;have ho':ψ (fr,h)=ψ (fr',h'):=ho;cases ho';exact hQ σ a w (St.refl hr) hA
 | i :: l,os,σ,w,a,fr,fr',h,h',hl,hr,hA,ho,hQ=>by
  cases os with
  | nil=>simp at hl
  | cons o os=>
   simp only[List.map_cons,List.cons.injEq]at hl;obtain⟨hi,hl⟩:=hl;have ho':andThen (fj P call ops os) (iW P call ops o fr h)=ψ (fr',h'):=ho;cases h1:iW P call ops o fr h with
   | none=>rw[h1]at ho';cases ho'
   | some fh=>
    obtain⟨fr1,h1'⟩:=fh;rw[h1]at ho';have ho2:fj P call ops os fr1 h1' = ψ (fr',h'):=ho';have hT:∀t∈o.looksAt ops,TR σ fr a t:=λt _=>hA.t t (λx=>x);have hw:=px (ops:=ops) (o:=o) hT;simp only[List.cons_append,wpOps,hi];unfold iW at h1;cases hwant:dE ops fr o with
    | false=>
     rw[hwant]at h1 hw;simp only[cond_false]at h1;cases h1;simp only[hw,Bool.false_eq_true,if_false];exact ql hcall l os hl hr (hA.put (cB σ)) ho2 hQ
    | true=>
     rw[hwant]at h1 hw;simp only[cond_true]at h1;obtain⟨hc,h2⟩:=af h1;simp only[hw,if_true];refine .inl (mW hcall hr (um hc hT) h2 ?_);rintro v v' w' σ' rfl hs hv;exact ql hcall l os hl hs.hr ((hA.mono hs.ext).put hv) ho2 (λσ2 a2 w2 hs2 hA2=>hQ σ2 a2 w2 (hs.trans hs2) hA2)
theorem DB {fr:Fr}{h:AH}{ts:List (Nat×Value)}{n next1:Nat}{keep:List (Nat×AO)}(hf:yu (rq n ts) next1 keep (ψ (fr,h))=true) (hts:aV (λp=>Nat.blt p.1 n) ts=true)
  {a:Act}(hr:HR P σ h w) (hA:AR σ fr a):HR P σ (CA next1 keep) w/\AR σ (rq n ts) a:=by
 have hf':(Nat.beq fr.n (rq n ts).n && Nat.beq h.next next1 && aV (λt=>wf (fr.get t) ((rq n ts).get t)) (List.range (rq n ts).n) && aV (λp=>wg (h.get p.1) p.2) keep)=true:=hf;obtain⟨h1,h4⟩:=ak hf';obtain⟨h1,h3⟩:=ak h1;obtain⟨h1,h2⟩:=ak h1;have h1:=aq h1;have h2:=aq h2;refine⟨hr.let_go ((qj _ _).trans h2.symm) λm o hm=>wm (aY h4 (m,o) (ux keep hm)),h1.symm.trans hA.n,hA.d,λt _=>?_⟩;by_cases ht:t<n
 .have:=wh (aY h3 t (List.mem_range.2 ht));unfold TR;rw[<-this];exact hA.t t (λx=>x)
 .have hn:(rq n ts).get t=none:=by
   have:∀l:List (Nat×Value),aV (λp=>Nat.blt p.1 n) l=true->(IC l).get t=none:=by
    intro l
    induction l with
    | nil=>intro _;rfl
    | cons p l ih=>
     intro hl;have h5:=dH (aY hl p (by simp));have h6:aV (λp=>Nat.blt p.1 n) l=true:=py λx hx=>aY hl x (by simp[hx]);rw[IC,Tr.get_set_ne _ _ U];exact ih h6
   exact this ts hts
  unfold TR;rw[hn];have hsz:a.tmps.size=n:=by rw[<-hA.n,h1];rfl
  rw[Array.getD_eq_getD_getElem?,Array.getElem?_eq_none U];exact cB σ
theorem uy (hm:P.follows .mixedOrders=true){N i:Nat}{c:Code}(hc:zS c=true){Q:Exit->Act->World->Prop}{fr:Fr}{h:AH}{ts:List (Nat×Value)}{n next1:Nat}{keep:List (Nat×AO)}
  (hf:yu (rq n ts) next1 keep (fj P (calls P (code P N)) (gh c) ((gh c).toList.take i) fr h)=true) (hts:aV (λp=>Nat.blt p.1 n) ts=true){frE:Fr}{hE:AH}
  (hf2:fj P (calls P (code P N)) (gh c) ((gh c).toList.drop i) (rq n ts) (CA next1 keep)=ψ (frE,hE))
  {a:Act}(hr:HR P σ h w) (hA:AR σ fr a){B:Nat}(hfar:ID B σ) (hB:B<=w.heap.size)
  (hQ:∀σ' a' w',HR P σ' hE w'->AR σ' frE a'->ID B σ'->im B w w'->(yv c).wp P Q a' w'):c.wp P Q a w:=by
 rw[HG hc];refine wp_seq (wp_region ?_);have hcall:=ew (ij hm N);generalize hops:gh c=ops at hf hf2;have hlist:∀(os:List Oper) (k:Nat),os <+: ops.toList.drop k->(List.range' k os.length).map (λi=>ops[i]?)=os.map some:=by
  intro os
  induction os with
  | nil=>intro k _;rfl
  | cons o os ih=>
   intro k hk;simp only[List.length_cons,List.range'_succ,List.map_cons];obtain⟨t,ht⟩:=hk;have h1:ops.toList[k]? = ψ o:=by
    have:(ops.toList.drop k)[0]? = ψ o:=by rw[<-ht];rfl
    simpa using this
   rw[ih (k+1) ⟨t,by rw[<-List.drop_drop,<-ht];simp⟩]
   congr 1
   simpa using h1
 have hsplit:List.range ops.size=List.range' 0 (min i ops.size) ++ List.range' (min i ops.size) (ops.size - min i ops.size):=by
  rw[List.range_eq_range'];have:=@List.range'_append_1 0 (min i ops.size) (ops.size - min i ops.size);rw[Nat.zero_add]at this;rw[this]
  congr 1;omega
 rw[hsplit];cases h1:fj P (calls P (code P N)) ops (ops.toList.take i) fr h with
 | none=>rw[h1]at hf;cases hf
 | some fh=>
  obtain⟨fr1,h1'⟩:=fh;rw[h1]at hf;have hm1:(List.range' 0 (min i ops.size)).map (λi=>ops[i]?)=(ops.toList.take i).map some:=by
   have:=hlist (ops.toList.take i) 0 (List.take_prefix i _)
   rwa [List.length_take,Array.length_toList]at this
  have hm2:(List.range' (min i ops.size) (ops.size - min i ops.size)).map (λi=>ops[i]?)=(ops.toList.drop i).map some:=by
   have hd:ops.toList.drop (min i ops.size)=ops.toList.drop i:=by
    rcases Nat.le_total i ops.size with y | y
    .rw[Nat.min_eq_left y]
    .rw[Nat.min_eq_right y,List.drop_eq_nil_of_le (by simp),List.drop_eq_nil_of_le (by simpa using y)]
   have:=hlist (ops.toList.drop i) (min i ops.size) (by rw[hd];exact List.prefix_refl _)
   rwa [List.length_drop,Array.length_toList,show ops.size - i=ops.size - min i ops.size by omega]at this
  refine ql hcall _ _ hm1 hr hA h1 (λσ1 a1 w1 hs1 hA1=>?_);obtain⟨f1,b1⟩:=hs1.far hfar hB;obtain⟨hr2,hA2⟩:=DB hf hts hs1.hr hA1;refine fo hcall _ _ hm2 hr2 hA2 hf2 (λσ2 a2 w2 hs2 hA3=>?_);obtain⟨f2,b2⟩:=hs2.far f1 (Nat.le_trans hB b1.size);exact hQ σ2 a2 w2 hs2.hr hA3 f2 (b1.trans b2)
end
end Eva
end
section
open Go Go.RowKit
namespace Eva
noncomputable def wo:Code:=Tryz.f4.body.getD .skip
noncomputable def qm:Code:=(bK 4 wo).2
noncomputable def qn:Code:=(bK 5 qm).2
noncomputable def io:Code:=(bK 3 qn).2
def HH:List (Nat×Value):=[
(0,.bool false),
(1,ν (ψ ⟨134,0,η⟩)),
(2,ν (ψ ⟨135,0,η⟩)),
(3,Y (ψ ⟨137,0,η⟩) 1 2),
(4,ν (ψ ⟨228,0,η⟩)),
(5,ν (ψ ⟨409,0,η⟩)),
(6,Y (ψ ⟨607,0,η⟩) 2 4),
(7,.bool true),
(18,.tuple #[.agg #[Y (ψ ⟨129,0,η⟩) 5 11,Y (ψ ⟨131,0,η⟩) 5 11,Y (ψ ⟨110,0,η⟩) 1 2],.agg #[Y (ψ ⟨133,0,η⟩) 1 2]]),
(19,.tuple #[.agg #[Y (ψ ⟨129,0,η⟩) 5 11,Y (ψ ⟨131,0,η⟩) 5 11,Y (ψ ⟨110,0,η⟩) 1 2],.agg #[Y (ψ ⟨133,0,η⟩) 1 2]]),
(20,.agg #[Y (ψ ⟨129,0,η⟩) 5 11,Y (ψ ⟨131,0,η⟩) 5 11,Y (ψ ⟨110,0,η⟩) 1 2]),
(21,.agg #[Y (ψ ⟨133,0,η⟩) 1 2]),
(22,.agg #[ω ξ 1,ω ξ 2,ω ξ 0,ω ξ 0,ω ξ 19]),
(23,Y (ψ ⟨136,0,η⟩) 1 2),
(24,Y (ψ ⟨137,0,η⟩) 1 2),
(25,.tuple #[ν (ψ ⟨228,0,η⟩),ν (ψ ⟨409,0,η⟩),Y (ψ ⟨607,0,η⟩) 2 4,.bool true]),
(26,.agg #[Y (ψ ⟨129,0,η⟩) 5 11,Y (ψ ⟨131,0,η⟩) 5 11,Y (ψ ⟨110,0,η⟩) 1 2]),
(27,.agg #[Y (ψ ⟨133,0,η⟩) 1 2]),
(28,Y (ψ ⟨137,0,η⟩) 1 2),
(29,.tuple #[ν (ψ ⟨228,0,η⟩),ν (ψ ⟨409,0,η⟩),Y (ψ ⟨607,0,η⟩) 2 4,.bool true]),
(30,ν (ψ ⟨228,0,η⟩)),
(31,ν (ψ ⟨409,0,η⟩)),
(32,Y (ψ ⟨607,0,η⟩) 2 4),
(33,.bool true)]
def DC:List (Nat×AO):=[
(109,.cells [ω ξ 1] 2 false),
(110,.cells [ω ξ 1,ω ξ 1,Y (ψ ⟨109,0,η⟩) 1 2] 110 false),
(129,.cells [ω ξ 0,ω ξ 0,ω ξ 0,ω ξ 1,ω ξ 0,ω ξ 0,ω ξ 2,ω ξ 0,ω ξ 0,ω ξ 3,ω ξ 0,ω ξ 0,ω ξ 4,ω ξ 0,ω ξ 0] 112 false),
(131,.cells [ω ξ 0,ω ξ 1,ω ξ 9,ω ξ 1,ω ξ 2,ω ξ 9,ω ξ 2,ω ξ 3,ω ξ 9,ω ξ 3,ω ξ 4,ω ξ 9,ω ξ 4,ω ξ 0,ω ξ 9] 114 false),
(134,.cells [Y (ψ ⟨129,0,η⟩) 5 11,Y (ψ ⟨131,0,η⟩) 5 11,Y (ψ ⟨110,0,η⟩) 1 2] 26 false),
(216,.cells [ω ξ 1,ω ξ 1,Y (ψ ⟨219,0,η⟩) 1 3] 248 false),
(219,.cells [ω ξ 1] 2 false),
(221,.cells [ω ξ 0,ω ξ 0,ω ξ 0,ω ξ 1,ω ξ 0,ω ξ 0,ω ξ 2,ω ξ 0,ω ξ 0,ω ξ 3,ω ξ 0,ω ξ 0,ω ξ 4,ω ξ 0,ω ξ 0] 249 false),
(223,.cells [ω ξ 0,ω ξ 1,ω ξ 9,ω ξ 1,ω ξ 2,ω ξ 9,ω ξ 2,ω ξ 3,ω ξ 19,ω ξ 3,ω ξ 4,ω ξ 9,ω ξ 4,ω ξ 0,ω ξ 9] 300 false),
(225,.cells [Y (ψ ⟨251,0,η⟩) 1 3,Y (ψ ⟨231,0,η⟩) 1 3,Y (ψ ⟨236,0,η⟩) 1 3,Y (ψ ⟨241,0,η⟩) 1 3,Y (ψ ⟨246,0,η⟩) 1 3] 58 false),
(226,.cells [Y (ψ ⟨233,0,η⟩) 1 3,Y (ψ ⟨238,0,η⟩) 1 3,Y (ψ ⟨243,0,η⟩) 1 3,Y (ψ ⟨248,0,η⟩) 1 3,Y (ψ ⟨253,0,η⟩) 1 3] 58 false),
(227,.cells [ω ξ 0,ω ξ 0,ω ξ 0,ω ξ 0,ω ξ 0,ω ξ 0,ω ξ 0,ω ξ 0,ω ξ 0,ω ξ 0] 372 false),
(228,.cells [Y (ψ ⟨221,0,η⟩) 5 11,Y (ψ ⟨223,0,η⟩) 5 11,Y (ψ ⟨216,0,η⟩) 1 2,Y (ψ ⟨225,0,η⟩) 5 10,Y (ψ ⟨226,0,η⟩) 5 10,Y (ψ ⟨227,0,η⟩) 5 10] 169 false),
(231,.cells [ω ξ 0] 3 false),
(233,.cells [ω ξ 0] 3 false),
(236,.cells [ω ξ 1] 3 false),
(238,.cells [ω ξ 1] 3 false),
(241,.cells [ω ξ 2] 3 false),
(243,.cells [ω ξ 2] 3 false),
(246,.cells [ω ξ 3] 3 false),
(248,.cells [ω ξ 3] 3 false),
(251,.cells [ω ξ 4] 3 false),
(253,.cells [ω ξ 4] 3 false),
(383,.cells [ω ξ 0,ω ξ 0,ω ξ 1,ω ξ 1,ω ξ 1] 3 false),
(385,.cells [Y (ψ ⟨383,0,η⟩) 5 11] 58 false),
(391,.cells [Y (ψ ⟨394,0,η⟩) 2 4] 261 false),
(394,.cells [Y (ψ ⟨406,0,η⟩) 1 3,Y (ψ ⟨404,0,η⟩) 1 3,Y (ψ ⟨402,0,η⟩) 1 3,Y (ψ ⟨408,0,η⟩) 1 3] 253 false),
(402,.cells [ω ξ 1] 3 false),
(404,.cells [ω ξ 1] 3 false),
(406,.cells [ω ξ 4] 3 false),
(408,.cells [ω ξ 4] 3 false),
(409,.cells [Y (ψ ⟨385,0,η⟩) 1 3,Y (ψ ⟨427,0,η⟩) 5 11,Y (ψ ⟨429,0,η⟩) 5 11,Y (ψ ⟨391,0,η⟩) 1 2,Y (ψ ⟨434,0,η⟩) 1 3,ω ξ 2] 244 false),
(427,.cells [ω ξ 0,ω ξ 1,ω ξ 2,ω ξ 3,ω ξ 4] 3 false),
(429,.cells [ω ξ 1,ω ξ 2,ω ξ 3,ω ξ 4,ω ξ 0] 3 false),
(430,.cells [ω ξ 0,ω ξ 1] 3 false),
(434,.cells [Y (ψ ⟨430,0,η⟩) 2 4] 58 false),
(607,.cells [ω ξ 11,ω ξ 31] 2 false)]
def DD:Nat:=674
def HI:List (Nat×Value):=[
(0,.bool false),
(1,ν (ψ ⟨134,0,η⟩)),
(2,ν (ψ ⟨135,0,η⟩)),
(3,Y (ψ ⟨137,0,η⟩) 1 2),
(4,ν (ψ ⟨228,0,η⟩)),
(5,ν (ψ ⟨409,0,η⟩)),
(6,Y (ψ ⟨607,0,η⟩) 2 4),
(7,.bool true),
(8,ω ξ 40),
(9,.nilIface),
(10,ν (ψ ⟨789,0,η⟩)),
(11,.nilIface),
(12,ν (ψ ⟨798,0,η⟩)),
(13,ν (ψ ⟨996,0,η⟩)),
(14,.nilIface),
(18,.tuple #[.agg #[Y (ψ ⟨129,0,η⟩) 5 11,Y (ψ ⟨131,0,η⟩) 5 11,Y (ψ ⟨110,0,η⟩) 1 2],.agg #[Y (ψ ⟨133,0,η⟩) 1 2]]),
(19,.tuple #[.agg #[Y (ψ ⟨129,0,η⟩) 5 11,Y (ψ ⟨131,0,η⟩) 5 11,Y (ψ ⟨110,0,η⟩) 1 2],.agg #[Y (ψ ⟨133,0,η⟩) 1 2]]),
(20,.agg #[Y (ψ ⟨129,0,η⟩) 5 11,Y (ψ ⟨131,0,η⟩) 5 11,Y (ψ ⟨110,0,η⟩) 1 2]),
(21,.agg #[Y (ψ ⟨133,0,η⟩) 1 2]),
(22,.agg #[ω ξ 1,ω ξ 2,ω ξ 0,ω ξ 0,ω ξ 19]),
(23,Y (ψ ⟨136,0,η⟩) 1 2),
(24,Y (ψ ⟨137,0,η⟩) 1 2),
(25,.tuple #[ν (ψ ⟨228,0,η⟩),ν (ψ ⟨409,0,η⟩),Y (ψ ⟨607,0,η⟩) 2 4,.bool true]),
(26,.agg #[Y (ψ ⟨129,0,η⟩) 5 11,Y (ψ ⟨131,0,η⟩) 5 11,Y (ψ ⟨110,0,η⟩) 1 2]),
(27,.agg #[Y (ψ ⟨133,0,η⟩) 1 2]),
(28,Y (ψ ⟨137,0,η⟩) 1 2),
(29,.tuple #[ν (ψ ⟨228,0,η⟩),ν (ψ ⟨409,0,η⟩),Y (ψ ⟨607,0,η⟩) 2 4,.bool true]),
(30,ν (ψ ⟨228,0,η⟩)),
(31,ν (ψ ⟨409,0,η⟩)),
(32,Y (ψ ⟨607,0,η⟩) 2 4),
(33,.bool true),
(34,.bool true),
(35,.bool false),
(36,.tuple #[ω ξ 40,.nilIface]),
(37,ν (ψ ⟨228,0,η⟩)),
(38,ν (ψ ⟨409,0,η⟩)),
(39,Y (ψ ⟨607,0,η⟩) 2 4),
(40,.tuple #[ω ξ 40,.nilIface]),
(41,ω ξ 40),
(42,.nilIface),
(43,.tuple #[.agg #[Y (ψ ⟨788,0,η⟩) 4 9,ω ξ 40,ω ξ 0],.nilIface]),
(44,ν (ψ ⟨228,0,η⟩)),
(45,ν (ψ ⟨409,0,η⟩)),
(46,Y (ψ ⟨607,0,η⟩) 2 4),
(47,.tuple #[.agg #[Y (ψ ⟨788,0,η⟩) 4 9,ω ξ 40,ω ξ 0],.nilIface]),
(48,.agg #[Y (ψ ⟨788,0,η⟩) 4 9,ω ξ 40,ω ξ 0]),
(49,.nilIface),
(50,.agg #[ω ξ 3,ω ξ 2]),
(51,.agg #[ω ξ 1,ω ξ 3]),
(52,Y (ψ ⟨790,0,η⟩) 2 4),
(53,.agg #[ω ξ 0,ω ξ 5,ω ξ 60,Y (ψ ⟨790,0,η⟩) 2 4]),
(54,.agg #[ω ξ 0,ω ξ 5,ω ξ 60,Y (ψ ⟨797,0,η⟩) 2 5]),
(55,.tuple #[.agg #[Y (ψ ⟨993,0,η⟩) 1 2,ω ξ 60],.nilIface]),
(56,ν (ψ ⟨228,0,η⟩)),
(57,ν (ψ ⟨409,0,η⟩)),
(58,Y (ψ ⟨607,0,η⟩) 2 4),
(59,.agg #[ω ξ 0,ω ξ 5,ω ξ 60,Y (ψ ⟨797,0,η⟩) 2 5]),
(60,.tuple #[.agg #[Y (ψ ⟨993,0,η⟩) 1 2,ω ξ 60],.nilIface]),
(61,.agg #[Y (ψ ⟨993,0,η⟩) 1 2,ω ξ 60]),
(62,.nilIface)]
def DE:List (Nat×AO):=[
(109,.cells [ω ξ 1] 2 false),
(110,.cells [ω ξ 1,ω ξ 1,Y (ψ ⟨109,0,η⟩) 1 2] 110 false),
(129,.cells [ω ξ 0,ω ξ 0,ω ξ 0,ω ξ 1,ω ξ 0,ω ξ 0,ω ξ 2,ω ξ 0,ω ξ 0,ω ξ 3,ω ξ 0,ω ξ 0,ω ξ 4,ω ξ 0,ω ξ 0] 112 false),
(131,.cells [ω ξ 0,ω ξ 1,ω ξ 9,ω ξ 1,ω ξ 2,ω ξ 9,ω ξ 2,ω ξ 3,ω ξ 9,ω ξ 3,ω ξ 4,ω ξ 9,ω ξ 4,ω ξ 0,ω ξ 9] 114 false),
(134,.cells [Y (ψ ⟨129,0,η⟩) 5 11,Y (ψ ⟨131,0,η⟩) 5 11,Y (ψ ⟨110,0,η⟩) 1 2] 26 false),
(788,.cells [ω ξ 0,ω ξ 1,ω ξ 2,ω ξ 3] 3 false),
(789,.cells [Y (ψ ⟨788,0,η⟩) 4 9,ω ξ 40,ω ξ 0] 70 false),
(993,.cells [Y (ψ ⟨995,0,η⟩) 2 5] 58 false),
(995,.cells [ω ξ 2,ω ξ 1] 3 false),
(996,.cells [Y (ψ ⟨993,0,η⟩) 1 2,ω ξ 60] 51 false)]
def DF:Nat:=997
def DG:List (Nat×Value):=[
(0,.bool false),
(1,ν (ψ ⟨134,0,η⟩)),
(2,ν (ψ ⟨135,0,η⟩)),
(3,Y (ψ ⟨137,0,η⟩) 1 2),
(4,ν (ψ ⟨228,0,η⟩)),
(5,ν (ψ ⟨409,0,η⟩)),
(6,Y (ψ ⟨607,0,η⟩) 2 4),
(7,.bool true),
(8,ω ξ 40),
(9,.nilIface),
(10,ν (ψ ⟨789,0,η⟩)),
(11,.nilIface),
(12,ν (ψ ⟨798,0,η⟩)),
(13,ν (ψ ⟨996,0,η⟩)),
(14,.nilIface),
(15,.string ⟨#[53,50,52,101,52,52,51,49,48,49,48,53,48,53,48,49,48,49,48,50,48,48,48,48,48,48,48,50,48,48,48,48,48,50,48,48,48,48,48,50,48,48,48,48,48,50,48,48,48,48,48,48,48,49,48,97,48,49,48,50,48,97,48,50,48,51,48,97,48,51,48,52,48,97,48,52,48,48,48,97,55,49,48,48,52,98,48,48]⟩),
(16,.bool true),
(17,ν (ψ ⟨1234,0,η⟩)),
(18,.tuple #[.agg #[Y (ψ ⟨129,0,η⟩) 5 11,Y (ψ ⟨131,0,η⟩) 5 11,Y (ψ ⟨110,0,η⟩) 1 2],.agg #[Y (ψ ⟨133,0,η⟩) 1 2]]),
(19,.tuple #[.agg #[Y (ψ ⟨129,0,η⟩) 5 11,Y (ψ ⟨131,0,η⟩) 5 11,Y (ψ ⟨110,0,η⟩) 1 2],.agg #[Y (ψ ⟨133,0,η⟩) 1 2]]),
(20,.agg #[Y (ψ ⟨129,0,η⟩) 5 11,Y (ψ ⟨131,0,η⟩) 5 11,Y (ψ ⟨110,0,η⟩) 1 2]),
(21,.agg #[Y (ψ ⟨133,0,η⟩) 1 2]),
(22,.agg #[ω ξ 1,ω ξ 2,ω ξ 0,ω ξ 0,ω ξ 19]),
(23,Y (ψ ⟨136,0,η⟩) 1 2),
(24,Y (ψ ⟨137,0,η⟩) 1 2),
(25,.tuple #[ν (ψ ⟨228,0,η⟩),ν (ψ ⟨409,0,η⟩),Y (ψ ⟨607,0,η⟩) 2 4,.bool true]),
(26,.agg #[Y (ψ ⟨129,0,η⟩) 5 11,Y (ψ ⟨131,0,η⟩) 5 11,Y (ψ ⟨110,0,η⟩) 1 2]),
(27,.agg #[Y (ψ ⟨133,0,η⟩) 1 2]),
(28,Y (ψ ⟨137,0,η⟩) 1 2),
(29,.tuple #[ν (ψ ⟨228,0,η⟩),ν (ψ ⟨409,0,η⟩),Y (ψ ⟨607,0,η⟩) 2 4,.bool true]),
(30,ν (ψ ⟨228,0,η⟩)),
(31,ν (ψ ⟨409,0,η⟩)),
(32,Y (ψ ⟨607,0,η⟩) 2 4),
(33,.bool true),
(34,.bool true),
(35,.bool false),
(36,.tuple #[ω ξ 40,.nilIface]),
(37,ν (ψ ⟨228,0,η⟩)),
(38,ν (ψ ⟨409,0,η⟩)),
(39,Y (ψ ⟨607,0,η⟩) 2 4),
(40,.tuple #[ω ξ 40,.nilIface]),
(41,ω ξ 40),
(42,.nilIface),
(43,.tuple #[.agg #[Y (ψ ⟨788,0,η⟩) 4 9,ω ξ 40,ω ξ 0],.nilIface]),
(44,ν (ψ ⟨228,0,η⟩)),
(45,ν (ψ ⟨409,0,η⟩)),
(46,Y (ψ ⟨607,0,η⟩) 2 4),
(47,.tuple #[.agg #[Y (ψ ⟨788,0,η⟩) 4 9,ω ξ 40,ω ξ 0],.nilIface]),
(48,.agg #[Y (ψ ⟨788,0,η⟩) 4 9,ω ξ 40,ω ξ 0]),
(49,.nilIface),
(50,.agg #[ω ξ 3,ω ξ 2]),
(51,.agg #[ω ξ 1,ω ξ 3]),
(52,Y (ψ ⟨790,0,η⟩) 2 4),
(53,.agg #[ω ξ 0,ω ξ 5,ω ξ 60,Y (ψ ⟨790,0,η⟩) 2 4]),
(54,.agg #[ω ξ 0,ω ξ 5,ω ξ 60,Y (ψ ⟨797,0,η⟩) 2 5]),
(55,.tuple #[.agg #[Y (ψ ⟨993,0,η⟩) 1 2,ω ξ 60],.nilIface]),
(56,ν (ψ ⟨228,0,η⟩)),
(57,ν (ψ ⟨409,0,η⟩)),
(58,Y (ψ ⟨607,0,η⟩) 2 4),
(59,.agg #[ω ξ 0,ω ξ 5,ω ξ 60,Y (ψ ⟨797,0,η⟩) 2 5]),
(60,.tuple #[.agg #[Y (ψ ⟨993,0,η⟩) 1 2,ω ξ 60],.nilIface]),
(61,.agg #[Y (ψ ⟨993,0,η⟩) 1 2,ω ξ 60]),
(62,.nilIface),
(63,.tuple #[.string ⟨#[53,50,52,101,52,52,51,49,48,49,48,53,48,53,48,49,48,49,48,50,48,48,48,48,48,48,48,50,48,48,48,48,48,50,48,48,48,48,48,50,48,48,48,48,48,50,48,48,48,48,48,48,48,49,48,97,48,49,48,50,48,97,48,50,48,51,48,97,48,51,48,52,48,97,48,52,48,48,48,97,55,49,48,48,52,98,48,48]⟩,.bool true]),
(64,.agg #[Y (ψ ⟨129,0,η⟩) 5 11,Y (ψ ⟨131,0,η⟩) 5 11,Y (ψ ⟨110,0,η⟩) 1 2]),
(65,.tuple #[.string ⟨#[53,50,52,101,52,52,51,49,48,49,48,53,48,53,48,49,48,49,48,50,48,48,48,48,48,48,48,50,48,48,48,48,48,50,48,48,48,48,48,50,48,48,48,48,48,50,48,48,48,48,48,48,48,49,48,97,48,49,48,50,48,97,48,50,48,51,48,97,48,51,48,52,48,97,48,52,48,48,48,97,55,49,48,48,52,98,48,48]⟩,.bool true]),
(66,.string ⟨#[53,50,52,101,52,52,51,49,48,49,48,53,48,53,48,49,48,49,48,50,48,48,48,48,48,48,48,50,48,48,48,48,48,50,48,48,48,48,48,50,48,48,48,48,48,50,48,48,48,48,48,48,48,49,48,97,48,49,48,50,48,97,48,50,48,51,48,97,48,51,48,52,48,97,48,52,48,48,48,97,55,49,48,48,52,98,48,48]⟩),
(67,.bool true),
(68,ν (ψ ⟨1234,0,η⟩)),
(69,.bool true),
(70,.bool false),
(71,.bool false),
(72,ν (ψ ⟨1234,0,η⟩)),
(73,.bool false),
(74,.bool false)]
def zT:List (Nat×AO):=[
(788,.cells [ω ξ 0,ω ξ 1,ω ξ 2,ω ξ 3] 3 false),
(789,.cells [Y (ψ ⟨788,0,η⟩) 4 9,ω ξ 40,ω ξ 0] 70 false),
(993,.cells [Y (ψ ⟨995,0,η⟩) 2 5] 58 false),
(995,.cells [ω ξ 2,ω ξ 1] 3 false),
(996,.cells [Y (ψ ⟨993,0,η⟩) 1 2,ω ξ 60] 51 false),
(1234,.cells [ν η,ν η,Y η 0 0] 141 false)]
def zU:Nat:=1235
def DH:List (Nat×Value):=[
(0,.bool false),
(1,ν (ψ ⟨134,0,η⟩)),
(2,ν (ψ ⟨135,0,η⟩)),
(3,Y (ψ ⟨137,0,η⟩) 1 2),
(4,ν (ψ ⟨228,0,η⟩)),
(5,ν (ψ ⟨409,0,η⟩)),
(6,Y (ψ ⟨607,0,η⟩) 2 4),
(7,.bool true),
(8,ω ξ 40),
(9,.nilIface),
(10,ν (ψ ⟨789,0,η⟩)),
(11,.nilIface),
(12,ν (ψ ⟨798,0,η⟩)),
(13,ν (ψ ⟨996,0,η⟩)),
(14,.nilIface),
(15,.string ⟨#[53,50,52,101,52,52,51,49,48,49,48,53,48,53,48,49,48,49,48,50,48,48,48,48,48,48,48,50,48,48,48,48,48,50,48,48,48,48,48,50,48,48,48,48,48,50,48,48,48,48,48,48,48,49,48,97,48,49,48,50,48,97,48,50,48,51,48,97,48,51,48,52,48,97,48,52,48,48,48,97,55,49,48,48,52,98,48,48]⟩),
(16,.bool true),
(17,ν (ψ ⟨1234,0,η⟩)),
(18,.tuple #[.agg #[Y (ψ ⟨129,0,η⟩) 5 11,Y (ψ ⟨131,0,η⟩) 5 11,Y (ψ ⟨110,0,η⟩) 1 2],.agg #[Y (ψ ⟨133,0,η⟩) 1 2]]),
(19,.tuple #[.agg #[Y (ψ ⟨129,0,η⟩) 5 11,Y (ψ ⟨131,0,η⟩) 5 11,Y (ψ ⟨110,0,η⟩) 1 2],.agg #[Y (ψ ⟨133,0,η⟩) 1 2]]),
(20,.agg #[Y (ψ ⟨129,0,η⟩) 5 11,Y (ψ ⟨131,0,η⟩) 5 11,Y (ψ ⟨110,0,η⟩) 1 2]),
(21,.agg #[Y (ψ ⟨133,0,η⟩) 1 2]),
(22,.agg #[ω ξ 1,ω ξ 2,ω ξ 0,ω ξ 0,ω ξ 19]),
(23,Y (ψ ⟨136,0,η⟩) 1 2),
(24,Y (ψ ⟨137,0,η⟩) 1 2),
(25,.tuple #[ν (ψ ⟨228,0,η⟩),ν (ψ ⟨409,0,η⟩),Y (ψ ⟨607,0,η⟩) 2 4,.bool true]),
(26,.agg #[Y (ψ ⟨129,0,η⟩) 5 11,Y (ψ ⟨131,0,η⟩) 5 11,Y (ψ ⟨110,0,η⟩) 1 2]),
(27,.agg #[Y (ψ ⟨133,0,η⟩) 1 2]),
(28,Y (ψ ⟨137,0,η⟩) 1 2),
(29,.tuple #[ν (ψ ⟨228,0,η⟩),ν (ψ ⟨409,0,η⟩),Y (ψ ⟨607,0,η⟩) 2 4,.bool true]),
(30,ν (ψ ⟨228,0,η⟩)),
(31,ν (ψ ⟨409,0,η⟩)),
(32,Y (ψ ⟨607,0,η⟩) 2 4),
(33,.bool true),
(34,.bool true),
(35,.bool false),
(36,.tuple #[ω ξ 40,.nilIface]),
(37,ν (ψ ⟨228,0,η⟩)),
(38,ν (ψ ⟨409,0,η⟩)),
(39,Y (ψ ⟨607,0,η⟩) 2 4),
(40,.tuple #[ω ξ 40,.nilIface]),
(41,ω ξ 40),
(42,.nilIface),
(43,.tuple #[.agg #[Y (ψ ⟨788,0,η⟩) 4 9,ω ξ 40,ω ξ 0],.nilIface]),
(44,ν (ψ ⟨228,0,η⟩)),
(45,ν (ψ ⟨409,0,η⟩)),
(46,Y (ψ ⟨607,0,η⟩) 2 4),
(47,.tuple #[.agg #[Y (ψ ⟨788,0,η⟩) 4 9,ω ξ 40,ω ξ 0],.nilIface]),
(48,.agg #[Y (ψ ⟨788,0,η⟩) 4 9,ω ξ 40,ω ξ 0]),
(49,.nilIface),
(50,.agg #[ω ξ 3,ω ξ 2]),
(51,.agg #[ω ξ 1,ω ξ 3]),
(52,Y (ψ ⟨790,0,η⟩) 2 4),
(53,.agg #[ω ξ 0,ω ξ 5,ω ξ 60,Y (ψ ⟨790,0,η⟩) 2 4]),
(54,.agg #[ω ξ 0,ω ξ 5,ω ξ 60,Y (ψ ⟨797,0,η⟩) 2 5]),
(55,.tuple #[.agg #[Y (ψ ⟨993,0,η⟩) 1 2,ω ξ 60],.nilIface]),
(56,ν (ψ ⟨228,0,η⟩)),
(57,ν (ψ ⟨409,0,η⟩)),
(58,Y (ψ ⟨607,0,η⟩) 2 4),
(59,.agg #[ω ξ 0,ω ξ 5,ω ξ 60,Y (ψ ⟨797,0,η⟩) 2 5]),
(60,.tuple #[.agg #[Y (ψ ⟨993,0,η⟩) 1 2,ω ξ 60],.nilIface]),
(61,.agg #[Y (ψ ⟨993,0,η⟩) 1 2,ω ξ 60]),
(62,.nilIface),
(63,.tuple #[.string ⟨#[53,50,52,101,52,52,51,49,48,49,48,53,48,53,48,49,48,49,48,50,48,48,48,48,48,48,48,50,48,48,48,48,48,50,48,48,48,48,48,50,48,48,48,48,48,50,48,48,48,48,48,48,48,49,48,97,48,49,48,50,48,97,48,50,48,51,48,97,48,51,48,52,48,97,48,52,48,48,48,97,55,49,48,48,52,98,48,48]⟩,.bool true]),
(64,.agg #[Y (ψ ⟨129,0,η⟩) 5 11,Y (ψ ⟨131,0,η⟩) 5 11,Y (ψ ⟨110,0,η⟩) 1 2]),
(65,.tuple #[.string ⟨#[53,50,52,101,52,52,51,49,48,49,48,53,48,53,48,49,48,49,48,50,48,48,48,48,48,48,48,50,48,48,48,48,48,50,48,48,48,48,48,50,48,48,48,48,48,50,48,48,48,48,48,48,48,49,48,97,48,49,48,50,48,97,48,50,48,51,48,97,48,51,48,52,48,97,48,52,48,48,48,97,55,49,48,48,52,98,48,48]⟩,.bool true]),
(66,.string ⟨#[53,50,52,101,52,52,51,49,48,49,48,53,48,53,48,49,48,49,48,50,48,48,48,48,48,48,48,50,48,48,48,48,48,50,48,48,48,48,48,50,48,48,48,48,48,50,48,48,48,48,48,48,48,49,48,97,48,49,48,50,48,97,48,50,48,51,48,97,48,51,48,52,48,97,48,52,48,48,48,97,55,49,48,48,52,98,48,48]⟩),
(67,.bool true),
(68,ν (ψ ⟨1234,0,η⟩)),
(69,.bool true),
(70,.bool false),
(71,.bool false),
(72,ν (ψ ⟨1234,0,η⟩)),
(73,.bool false),
(74,.bool false),
(75,.nilIface),
(76,.bool true),
(77,.bool true),
(78,ω ξ 40),
(79,.bool true),
(80,.bool true),
(81,.bool true),
(82,.nilIface),
(83,.bool true),
(84,.bool true),
(85,.bool true),
(86,ν (ψ ⟨789,0,η⟩)),
(87,Y (ψ ⟨788,0,η⟩) 4 9),
(88,Y (ψ ⟨1235,0,η⟩) 4 8),
(89,.bool true),
(90,.bool true),
(91,.bool true),
(92,.nilIface),
(93,.bool true),
(94,.bool true),
(95,.bool true),
(96,ν (ψ ⟨996,1,η⟩)),
(97,ω ξ 60),
(98,.bool true),
(99,.bool true),
(100,.bool true),
(101,ν (ψ ⟨996,0,η⟩)),
(102,Y (ψ ⟨993,0,η⟩) 1 2),
(103,Y (ψ ⟨1236,0,η⟩) 2 4),
(104,Y (ψ ⟨1237,0,η⟩) 1 2),
(105,.bool true),
(106,.bool true),
(107,.bool true),
(108,ν (ψ ⟨1234,0,η⟩)),
(109,.string ⟨#[53,50,52,101,52,52,51,49,48,49,48,53,48,53,48,49,48,49,48,50,48,48,48,48,48,48,48,50,48,48,48,48,48,50,48,48,48,48,48,50,48,48,48,48,48,50,48,48,48,48,48,48,48,49,48,97,48,49,48,50,48,97,48,50,48,51,48,97,48,51,48,52,48,97,48,52,48,48,48,97,55,49,48,48,52,98,48,48]⟩),
(110,.string ⟨#[108,111,97,100,32,53,50,52,101,52,52,51,49,48,49,48,53,48,53,48,49,48,49,48,50,48,48,48,48,48,48,48,50,48,48,48,48,48,50,48,48,48,48,48,50,48,48,48,48,48,50,48,48,48,48,48,48,48,49,48,97,48,49,48,50,48,97,48,50,48,51,48,97,48,51,48,52,48,97,48,52,48,48,48,97,55,49,48,48,52,98,48,48]⟩),
(111,.string ⟨#[111,107,32,53,32,53,32,49]⟩),
(112,.bool true),
(113,.bool true),
(114,.bool true),
(115,ν (ψ ⟨1234,0,η⟩))]
def zV:List (Nat×AO):=[
(1234,.cells [ν (ψ ⟨1372,0,η⟩),ν η,Y η 0 0] 141 false),
(1360,.cells [ω ξ 1,ω ξ 1,Y (ψ ⟨1363,0,η⟩) 1 3] 248 false),
(1363,.cells [ω ξ 1] 2 false),
(1365,.cells [ω ξ 0,ω ξ 0,ω ξ 0,ω ξ 1,ω ξ 0,ω ξ 0,ω ξ 2,ω ξ 0,ω ξ 0,ω ξ 3,ω ξ 0,ω ξ 0,ω ξ 4,ω ξ 0,ω ξ 0] 249 false),
(1367,.cells [ω ξ 0,ω ξ 1,ω ξ 9,ω ξ 1,ω ξ 2,ω ξ 9,ω ξ 2,ω ξ 3,ω ξ 9,ω ξ 3,ω ξ 4,ω ξ 9,ω ξ 4,ω ξ 0,ω ξ 9] 300 false),
(1369,.cells [Y (ψ ⟨1395,0,η⟩) 1 3,Y (ψ ⟨1375,0,η⟩) 1 3,Y (ψ ⟨1380,0,η⟩) 1 3,Y (ψ ⟨1385,0,η⟩) 1 3,Y (ψ ⟨1390,0,η⟩) 1 3] 58 false),
(1370,.cells [Y (ψ ⟨1377,0,η⟩) 1 3,Y (ψ ⟨1382,0,η⟩) 1 3,Y (ψ ⟨1387,0,η⟩) 1 3,Y (ψ ⟨1392,0,η⟩) 1 3,Y (ψ ⟨1397,0,η⟩) 1 3] 58 false),
(1371,.cells [ω ξ 0,ω ξ 0,ω ξ 0,ω ξ 0,ω ξ 0,ω ξ 0,ω ξ 0,ω ξ 0,ω ξ 0,ω ξ 0] 372 false),
(1372,.cells [Y (ψ ⟨1365,0,η⟩) 5 11,Y (ψ ⟨1367,0,η⟩) 5 11,Y (ψ ⟨1360,0,η⟩) 1 2,Y (ψ ⟨1369,0,η⟩) 5 10,Y (ψ ⟨1370,0,η⟩) 5 10,Y (ψ ⟨1371,0,η⟩) 5 10] 169 false),
(1375,.cells [ω ξ 0] 3 false),
(1377,.cells [ω ξ 0] 3 false),
(1380,.cells [ω ξ 1] 3 false),
(1382,.cells [ω ξ 1] 3 false),
(1385,.cells [ω ξ 2] 3 false),
(1387,.cells [ω ξ 2] 3 false),
(1390,.cells [ω ξ 3] 3 false),
(1392,.cells [ω ξ 3] 3 false),
(1395,.cells [ω ξ 4] 3 false),
(1397,.cells [ω ξ 4] 3 false)]
def zW:Nat:=1398
end Eva
end
end Go.Proofs.YtaagdjkinbemcaaGreatDoor
