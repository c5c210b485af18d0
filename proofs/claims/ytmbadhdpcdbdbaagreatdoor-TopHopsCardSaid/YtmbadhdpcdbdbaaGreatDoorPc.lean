/-
Lemmas for TopHops. No condition.
-/
import Derived.Test.YtmbadhdpcdbdbaaGreatDoorPb
import Derived.KernelRfl
import Derived.Test.YtmbadhdpcdbdbaaGreatDoorProg
namespace Go.Proofs.YtmbadhdpcdbdbaaGreatDoor
open _root_.Go.Value renaming pointer->ψ,slice->η
open _root_.Option renaming none->ξ,some->ω
set_option linter.unusedVariables false
set_option linter.unusedSimpArgs false
set_option linter.unusedSectionVars false
set_option linter.unnecessarySimpa false
section
open Go Go.RowKit
namespace Eva
structure pW (N:Nat) (F:FF) (fr:Fr):Prop where
 n:fr.n=N
 get:fr.get=F
noncomputable section
def ldC (h:AH) (b o:Nat):Option Value:=
 match aY h b with
 | some (c,_,_)=>c[o]?
 | none=>ξ
def au (h:AH) (b o n:Nat):Option (List Value):=
 match aY h b with
 | some (c,_,_)=>nF c o n
 | none=>ξ
def iE (h:AH) (b o:Nat) (vs:List Value):Option AH:=da h ⟨b,o,ξ⟩ vs
def ac:Option (Nat×Value)->Value
 | none=>.nilIface
 | some (t,v)=>.iface t v
def Ek (fn:Func):Code:=fn.body.getD .skip
def EN (P:Program) (t:TypeId) (h:AH) (b o:Nat):Option Value:=ia P t (ψ (ω ⟨b,o,ξ⟩)) h
def mu (P:Program) (t:TypeId):Option (Option Nat):=
 match P.underlying t,P.info? t with
 | some d,ω i=>ω (cond (io d) (ω i.size) ξ)
 | _,_=>ξ
theorem Gf {P:Program}{t:TypeId}{h:AH}{b o:Nat}{v:Value}(ht:mu P t=ω ξ) (hl:ldC h b o=ω v):EN P t h b o=ω v:=by
 unfold EN ia ldC at *;simp only
 split at hl
 .rename_i c e f hc;rw[hc];simp only;unfold mu at ht;unfold gD
  split at ht
  .rename_i dd i h1 h2;simp only[h1,h2];unfold tz;cases ha:io dd with
   | true=>rw[ha]at ht;cases ht
   | false=>exact hl
  .cases ht
 .cases hl
theorem Gg {P:Program}{t:TypeId}{h:AH}{b o n:Nat}{c:List Value}(ht:mu P t=ω (ω n)) (hl:au h b o n=ω c):EN P t h b o=ω (.agg c.toArray):=by
 unfold EN ia au at *;simp only
 split at hl
 .rename_i c' e f hc;rw[hc];simp only;unfold mu at ht;unfold gD
  split at ht
  .rename_i dd i h1 h2;simp only[h1,h2];unfold tz;cases ha:io dd with
   | false=>rw[ha]at ht;cases ht
   | true=>
    rw[ha]at ht;injection ht with ht;injection ht with ht;simp only[cond_true];rw[ht,hl];rfl
  .cases ht
 .cases hl
def V (P:Program) (N:Nat) (c:Code) (F:FF) (h:AH) (Q:lx->FF->AH->Prop):Prop:=
 ∀fr,pW N F fr->W P c fr h (λe fr' h'=>∃F',pW N F' fr'/\Q e F' h')
def VD (P:Program) (N:Nat) (ops:Array Oper) (l:List (Nat×List Nat)) (F:FF) (h:AH) (Q:FF->AH->Prop):Prop:=
 ∀fr,pW N F fr->WD P ops l fr h (λfr' h'=>∃F',pW N F' fr'/\Q F' h')
def AG (P:Program) (ops:Array Oper) (F:FF) (h:AH) (again:List Nat):Prop:=aU (gO P ops F h) again=true
def tW (F:FF):Option Tmp->Value->FF
 | some d,v=>F.put d v
 | none,_=>F
inductive se (P:Program) (F:FF) (h:AH):List ResultVar->List Value->Prop
 | nil:se P F h [] []
 | tmp {t:Nat}{v:Value}{l:List ResultVar}{vs:List Value}:F t=ω v->se P F h l vs->se P F h (.tmp t :: l) (v :: vs)
 | cell {a t b o:Nat}{v:Value}{l:List ResultVar}{vs:List Value}:F a=ω (ψ (ω ⟨b,o,ξ⟩))->EN P t h b o=ω v->se P F h l vs->se P F h (.cell a t :: l) (v :: vs)
theorem se.ok {P:Program}{N:Nat}{F:FF}{h:AH}{fr:Fr}(hs:pW N F fr){l:List ResultVar}{vs:List Value}(hr:se P F h l vs):jA P fr h l=ω vs:=by
 induction hr with
 | nil=>rfl
 | @tmp t v l vs hF _ ih=>
  show(jA P fr h l).map (cH (fr.get t) :: ·)=_;rw[ih,hs.get,hF];rfl
 | @cell a t b o v l vs hF hl _ ih=>
  show C8 P t h (cH (fr.get a)) (jA P fr h l)=_;rw[ih,hs.get,hF];unfold C8;have:ia P t (cH (ω (ψ (ω ⟨b,o,ξ⟩)))) h=ω v:=hl;rw[this]
inductive SF where
 | next (c:Code)
 | blk (id:Nat)
 | rnd (g:FF->AH->Prop)
inductive cg where
 | code (c:Code) (k:List SF) (F:FF) (h:AH)
 | ops (o:Array Oper) (l:List (Nat×List Nat)) (k:List SF) (F:FF) (h:AH)
 | chk (o:Array Oper) (a:List Nat) (l:List (Nat×List Nat)) (k:List SF) (F:FF) (h:AH)
 | out (e:lx) (k:List SF) (F:FF) (h:AH)
 | res (l:List ResultVar) (acc:List Value) (F:FF) (h:AH)
 | bad
section
variable (P:Program) (N:Nat) (rs:List ResultVar) (Q:Value->AH->Prop)
def In (n s:FF->AH->Prop):lx->FF->AH->Prop
 | .normal=>n
 | _=>s
def vR:List SF->lx->FF->AH->Prop
 | [],.exit _,_,_=>False
 | [],_,F,h=>∃vs,se P F h rs vs/\Q (one vs) h
 | .next b :: k,.normal,F,h=>V P N b F h (vR k)
 | .next _ :: k,e,F,h=>vR k e F h
 | .blk id :: k,.exit i,F,h=>cond (Nat.beq i id) (vR k .normal F h) (vR k (.exit i) F h)
 | .blk _ :: k,e,F,h=>vR k e F h
 | .rnd g :: _,.normal,F,h=>g F h
 | .rnd _ :: k,e,F,h=>vR k e F h
def CF:cg->Prop
 | .code c k F h=>V P N c F h (vR P N rs Q k)
 | .ops o l k F h=>VD P N o l F h (λF h=>vR P N rs Q k .normal F h)
 | .chk o a l k F h=>AG P o F h a/\VD P N o l F h (λF h=>vR P N rs Q k .normal F h)
 | .out e k F h=>vR P N rs Q k e F h
 | .res l acc F h=>∃vs,se P F h l vs/\Q (one (acc ++ vs)) h
 | .bad=>False
def AL (a b:cg):Value->Option cg
 | .bool true=>ω a
 | .bool false=>ω b
 | _=>ξ
def El (ops:Array Oper) (k:List SF) (F:FF) (h:AH):Option (List (Nat×List Nat))->Option cg
 | some l=>ω (.ops ops l k F h)
 | none=>ξ
def Ho (k:List SF) (F:FF) (h:AH) (ops:Array Oper):Bool->Option cg
 | true=>El ops k F h (fI P ops)
 | false=>ω (.ops ops ((List.range ops.size).map λj=>(j,[])) k F h)
def Em (k:List SF) (F:FF) (h:AH):Code->Option cg
 | .seq a b=>ω (.code a (.next b :: k) F h)
 | .block id b=>ω (.code b (.blk id :: k) F h)
 | .scope b=>ω (.code b k F h)
 | .skip=>ω (.out .normal k F h)
 | .label _=>ω (.out .normal k F h)
 | .exit id=>ω (.out (.exit id) k F h)
 | .ret=>ω (.out .ret k F h)
 | .region _ ops d=>Ho P k F h ops d
 | .cond x a b=>cond (eH x) (AL (.code a k F h) (.code b k F h) (bC F x)) ξ
 | _=>ξ
def Gh (F:FF) (h:AH) (e:lx):List SF->Option cg
 | []=>match e with
  | .exit _=>ξ
  | _=>ω (.res rs [] F h)
 | .next b :: k=>match e with
  | .normal=>ω (.code b k F h)
  | e=>ω (.out e k F h)
 | .blk id :: k=>match e with
  | .exit i=>ω (cond (Nat.beq i id) (.out .normal k F h) (.out (.exit i) k F h))
  | e=>ω (.out e k F h)
 | .rnd _ :: k=>match e with
  | .normal=>ξ
  | e=>ω (.out e k F h)
def AM:Value->Bool
 | .int _ _=>false
 | _=>true
def EO:Option Value->Bool
 | some (.map _)=>false
 | _=>true
def quiet (F:FF) (o:Oper):Bool:=
 match o.op with
 | .move _ | .pick _ _ _ | .nilCheck _ | .fieldAddr _ _ _ | .field _ _ _ | .extract _ _ | .makeFunc _ _ _ | .makeInterface _ _ | .build _ _=>true
 | .binOp _ _ x _ _=>AM (bC F x)
 | .unOp _ _ x=>AM (bC F x)
 | .call c=>match c.callee with
  | .builtin .len=>EO (xy c F)
  | _=>false
 | _=>false
def En:Option Tmp->Bool
 | some d=>Nat.blt d N
 | none=>true
def CV (ops:Array Oper) (F:FF) (o:Oper):Bool:=cond (ib ops F o) (bT o) false
def Gi (ops:Array Oper) (a:List Nat) (l:List (Nat×List Nat)) (k:List SF) (F:FF) (h:AH) (d:Option Tmp):Option Value->Option cg
 | some v=>cond (En N d) (ω (.chk ops a l k (tW F d v) h)) ξ
 | none=>ξ
def G0 (ops:Array Oper) (a:List Nat) (l:List (Nat×List Nat)) (k:List SF) (F:FF) (h:AH) (o:Oper):Option cg:=
 cond (ib ops F o)
  (cond (bT o)
   (match o.op with
   | .assign x=>cond (En N o.dst) (ω (.ops ops l k (tW F o.dst (bC F x)) h)) ξ
   | _=>cond (quiet F o) (Gi N ops a l k F h o.dst (ji P o F h)) ξ) ξ)
  (cond (En N o.dst) (ω (.ops ops l k (tW F o.dst undef) h)) ξ)
def EP (ops:Array Oper) (a:List Nat) (l:List (Nat×List Nat)) (k:List SF) (F:FF) (h:AH):Option Oper->Option cg
 | some o=>cond (looks P o.op && ib ops F o) ξ (ω (.chk ops a l k F h))
 | none=>ξ
def EQ (l:List ResultVar) (acc:List Value) (F:FF) (h:AH):Option Value->Option cg
 | some v=>ω (.res l (acc ++ [v]) F h)
 | none=>ξ
def qQ:cg->Option cg
 | .code c k F h=>Em P k F h c
 | .ops _ [] k F h=>ω (.out .normal k F h)
 | .ops ops ((j,a) :: l) k F h=>match ops[j]? with
  | some o=>G0 P N ops a l k F h o
  | none=>ξ
 | .chk ops [] l k F h=>ω (.ops ops l k F h)
 | .chk ops (i :: a) l k F h=>EP P ops a l k F h ops[i]?
 | .out e k F h=>Gh rs F h e k
 | .res (.tmp t :: l) acc F h=>EQ l acc F h (F t)
 | _=>ξ
def vS (c:cg) (ih:cg->cg):Option cg->cg
 | some c'=>ih c'
 | none=>c
def ES (n:Nat):cg->cg:=Nat.rec (motive:=λ_=>cg->cg) (λc=>c) (λ_ ih c=>vS c ih (qQ P N rs c)) n
def rn (c:cg):cg:=ES P N rs 1000 c
def Df (c:cg) (v:Value) (h':AH):cg:=
 match c with
 | .ops ops ((j,a) :: l) k F _=>match ops[j]? with
  | some o=>cond (En N o.dst) (.chk ops a l k (tW F o.dst v) h') .bad
  | none=>.bad
 | .chk ops (_ :: a) l k F h=>.chk ops a l k F h
 | .res (_ :: l) acc F h=>.res l (acc ++ [v]) F h
 | _=>.bad
def fi:cg->Option (Array Oper×Oper×FF×AH)
 | .ops ops ((j,_) :: _) _ F h=>match ops[j]? with
  | some o=>cond (CV ops F o) (ω (ops,o,F,h)) ξ
  | none=>ξ
 | _=>ξ
def FY:cg->AH
 | .code _ _ _ h | .ops _ _ _ _ h | .chk _ _ _ _ _ h | .out _ _ _ h | .res _ _ _ h=>h
 | .bad=>⟨0,.nil⟩
def vt:cg->FF
 | .code _ _ F _ | .ops _ _ _ F _ | .chk _ _ _ _ F _ | .out _ _ F _ | .res _ _ F _=>F
 | .bad=>λ_=>ξ
def yS (c:cg) (v:Value):cg:=Df N c v (FY c)
end
section
variable {P:Program}{N:Nat}{rs:List ResultVar}{Q:Value->AH->Prop}{ops:Array Oper}{F:FF}{h:AH}{l:List (Nat×List Nat)}{j:Nat}{a:List Nat}
theorem pW.put {fr:Fr}(hs:pW N F fr){d:Option Tmp}(hd:En N d=true) (v:Value):pW N (tW F d v) (dp fr d v):=by
 cases d with
 | none=>exact hs
 | some d=>
  have hlt:d<fr.n:=by
   rw[hs.n,<-Nat.blt_eq];exact hd
  refine⟨by rw[oC];exact hs.n,?_⟩
  funext k
  show(fr.put d v).get k=cond (Nat.beq k d) (ω v) (F k);by_cases e:k=d
  .subst e;rw[gL hlt,Nat.beq_refl];rfl
  .have hb:Nat.beq k d=false:=by
    cases hb:Nat.beq k d with
    | false=>rfl
    | true=>exact absurd (av hb) e
   rw[oB e,hb];exact congrFun hs.get k
theorem fX {o:Oper}(hg:CV ops F o=true):ib ops F o=true/\bT o=true:=by
 unfold CV at hg;cases hw:ib ops F o with
 | false=>rw[hw]at hg;cases hg
 | true=>rw[hw]at hg;exact⟨rfl,hg⟩
theorem VD.step {K:FF->AH->Prop}{o:Oper}{v:Value}{h':AH}(ho:ops[j]? = ω o) (hd:En N o.dst=true) (hop:∀fr:Fr,fr.get=F->W1 P ops o fr h (λfr' h2=>fr' = dp fr o.dst v/\h2=h')) (ag:(ib ops F o && !(jr o.op))=true->AG P ops (tW F o.dst v) h' a)
  (hK:VD P N ops l (tW F o.dst v) h' K):VD P N ops ((j,a) :: l) F h K:=by
 intro fr hs;obtain⟨n,fr',h2,ha,rfl,rfl⟩:=hop fr hs.get;refine WD.op ho ⟨n,_,_,ha,?_,hK _ (hs.put hd v)⟩;have hsee:=hs.put hd v;unfold zR;rw[lJ,hs.get];cases hz:(ib ops F o && !(jr o.op)) with
 | false=>rfl
 | true=>
  have ag:=ag hz;unfold AG at ag;rw[<-hsee.get]at ag;exact ag
theorem AN {o:Oper}{v:Value}(hk:aJ P o = .val) (hg:CV ops F o=true) (hv:ji P o F h=ω v):∀fr:Fr,fr.get=F->W1 P ops o fr h (λfr' h2=>fr' = dp fr o.dst v/\h2=h):=λfr hfr=>by
 obtain⟨hw,hc⟩:=fX hg;refine W1.wanted (by rw[lJ,hfr];exact hw) (W1.val rfl hc hk ?_ ⟨rfl,rfl⟩);show pK P o fr h=_;rw[Gd,hfr];exact hv
theorem AP {o:Oper}{ao:AO}{f:Nat->Value}(hk:aJ P o = .lay) (hg:CV ops F o=true) (hv:De P o F=ω (ao,f)):∀fr:Fr,fr.get=F->W1 P ops o fr h (λfr' h2=>fr' = dp fr o.dst (f h.next)/\h2=h.new ao):=λfr hfr=>by
 obtain⟨hw,hc⟩:=fX hg;refine W1.wanted (by rw[lJ,hfr];exact hw) (W1.lay (b:=ao) (f:=f) rfl hc hk ?_ ⟨rfl,rfl⟩);show yx P o fr=_;rw[Ge,hfr];exact hv
theorem sf {o:Oper}{v:Value}{h':AH}(hk:aJ P o = .loud) (hg:CV ops F o=true) (hv:yR P o F h=ω (v,h')):∀fr:Fr,fr.get=F->W1 P ops o fr h (λfr' h2=>fr' = dp fr o.dst v/\h2=h'):=λfr hfr=>by
 obtain⟨hw,hc⟩:=fX hg;refine W1.wanted (by rw[lJ,hfr];exact hw) (W1.loud rfl hc hk ?_ ⟨rfl,rfl⟩);show tB P o fr h=_;rw[Ej,hfr];exact hv
theorem Gj {o:Oper}(hw:ib ops F o=false):∀fr:Fr,fr.get=F->W1 P ops o fr h (λfr' h2=>fr' = dp fr o.dst undef/\h2=h):=λfr hfr=>
 W1.unwanted (by rw[lJ,hfr];exact hw) ⟨rfl,rfl⟩
theorem AG.cons {i:Nat}(h1:gO P ops F h i=true) (h2:AG P ops F h a):AG P ops F h (i :: a):=by
 unfold AG aU at *;simp only[h1,cond_true];exact h2
theorem WD.of_list {ops:Array Oper}{Q:Fr->AH->Prop}:∀(m i:Nat){fr:Fr}{h:AH},i+m=ops.size->WD P ops ((List.range' i m).map λj=>(j,[])) fr h Q->WO P ops (ops.toList.drop i) fr h Q
 | 0,i,fr,h,hi,hw=>by
  obtain⟨n,fr',h',ha,q⟩:=hw;have hd:ops.toList.drop i = []:=List.drop_eq_nil_of_le (by simp;omega);rw[hd];cases ha;exact WO.nil q
 | m+1,i,fr,h,hi,hw=>by
  obtain⟨n,fr',h',ha,q⟩:=hw;have hlt:i<ops.size:=U;have hd:ops.toList.drop i=ops[i] :: ops.toList.drop (i+1):=by
   rw[List.drop_eq_getElem_cons (by simpa using hlt)];simp
  have hg:ops[i]? = ω ops[i]:=Array.getElem?_eq_getElem hlt;rw[hd];have ha':c8 P (aQ P (aL P n)) ops i [] (drawn P (aQ P (aL P n)) ops ((List.range' (i+1) m).map λj=>(j,[]))) fr h=ω (fr',h'):=ha;unfold c8 at ha';rw[hg]at ha';simp only at ha';cases h1:jy P (aQ P (aL P n)) ops ops[i] fr h with
  | none=>rw[h1]at ha';cases ha'
  | some fh=>
   obtain⟨fr1,hh1⟩:=fh;rw[h1,xu]at ha';have ha2:drawn P (aQ P (aL P n)) ops ((List.range' (i+1) m).map λj=>(j,[])) fr1 hh1=ω (fr',h'):=ha';exact WO.cons ⟨n,fr1,hh1,h1,WD.of_list m (i+1) U ⟨n,fr',h',ha2,q⟩⟩
theorem AS {c:Code}{c':cg}{k:List SF}(hs:Em P k F h c=ω c') (K:CF P N rs Q c'):CF P N rs Q (.code c k F h):=by
 cases c with
 | seq a b=>
  cases hs;intro fr hs;refine W.seq ((K fr hs).mono λe fr' h'=>?_);rintro⟨F',hs',q⟩;cases e with
  | normal=>exact q fr' hs'
  | exit i=>exact⟨F',hs',q⟩
  | ret=>exact⟨F',hs',q⟩
 | block i b=>
  cases hs;intro fr hs;refine W.block ((K fr hs).mono λe fr' h'=>?_);rintro⟨F',hs',q⟩;cases e with
  | normal=>exact⟨F',hs',q⟩
  | exit j=>
   have q':cond (Nat.beq j i) (vR P N rs Q k .normal F' h') (vR P N rs Q k (.exit j) F' h'):=q;by_cases e:j=i
   .subst e;rw[Nat.beq_refl]at q';simp only[oI,if_pos rfl];exact⟨F',hs',q'⟩
   .have hb:Nat.beq j i=false:=by
     cases hb:Nat.beq j i with
     | false=>rfl
     | true=>exact absurd (av hb) e
    rw[hb]at q';simp only[oI,if_neg e];exact⟨F',hs',q'⟩
  | ret=>exact⟨F',hs',q⟩
 | scope b=>cases hs;exact λfr hs=>W.scope (K fr hs)
 | skip=>cases hs;exact λfr hs=>W.skip ⟨F,hs,K⟩
 | label l=>cases hs;exact λfr hs=>W.label ⟨F,hs,K⟩
 | exit i=>cases hs;exact λfr hs=>W.exit ⟨F,hs,K⟩
 | ret=>cases hs;exact λfr hs=>W.ret ⟨F,hs,K⟩
 | region i ops dr=>
  cases dr with
  | true=>
   have hs':El ops k F h (fI P ops)=ω c':=hs;cases hp:fI P ops with
   | none=>rw[hp]at hs';cases hs'
   | some l=>
    rw[hp]at hs';cases hs';exact λfr hs=>W.regionD hp (K fr hs)
  | false=>
   cases hs;intro fr hs;refine W.region ?_;have h1:WD P ops ((List.range ops.size).map λj=>(j,[])) fr h (λfr' h'=>∃F',pW N F' fr'/\vR P N rs Q k .normal F' h'):=K fr hs;rw[List.range_eq_range']at h1;have h2:=WD.of_list (P:=P) ops.size 0 (Nat.zero_add _) h1
   rwa [List.drop_zero]at h2
 | cond x a b=>
  intro fr hf;have hs':cond (eH x) (AL (.code a k F h) (.code b k F h) (bC F x)) ξ=ω c':=hs;obtain⟨hx,hs'⟩:=ae hs';have he:ev fr x=bC F x:=by rw[Hn,hf.get]
  unfold AL at hs'
  split at hs'
  .rename_i ht;cases hs';exact W.cond hx (he.trans ht) (λ_=>K fr hf) (λh=>by cases h)
  .rename_i ht;cases hs';exact W.cond hx (he.trans ht) (λh=>by cases h) (λ_=>K fr hf)
  .cases hs'
 | _=>cases hs
theorem Dg {e:lx}{c':cg}{k:List SF}(hs:Gh rs F h e k=ω c') (K:CF P N rs Q c'):CF P N rs Q (.out e k F h):=by
 cases k with
 | nil=>cases e <;>cases hs <;>exact K
 | cons s k=>
  cases s with
  | next b=>cases e <;>cases hs <;>exact K
  | rnd g=>cases e <;>cases hs <;>exact K
  | blk id=>
   cases e with
   | exit i=>
    injection hs with hs;subst hs;show cond (Nat.beq i id) (vR P N rs Q k .normal F h) (vR P N rs Q k (.exit i) F h);cases hb:Nat.beq i id <;>rw[hb]at K <;>exact K
   | normal=>cases hs;exact K
   | ret=>cases hs;exact K
theorem yT {o:Oper}(hq:quiet F o=true):aJ P o = .val/\jr o.op=false:=by
 unfold quiet at hq;unfold aJ jr
 split at hq <;>first | (rename_i ho;rw[ho];exact⟨rfl,rfl⟩) | skip
 .rename_i c ho;rw[ho];refine⟨?_,rfl⟩;simp only
  split at hq
  .rename_i hc;rw[hc]
  .cases hq
 .cases hq
theorem EU {o:Oper}{c':cg}{k:List SF}(ho:ops[j]? = ω o) (hs:G0 P N ops a l k F h o=ω c') (K:CF P N rs Q c'):CF P N rs Q (.ops ops ((j,a) :: l) k F h):=by
 unfold G0 at hs;cases hw:ib ops F o with
 | false=>
  rw[hw]at hs;obtain⟨hd,hs⟩:=ae hs;cases hs;exact VD.step ho hd (Gj hw) (λz=>by rw[hw]at z;cases z) K
 | true=>
  rw[hw]at hs;obtain⟨hc,hs⟩:=ae hs;have hg:CV ops F o=true:=by unfold CV;rw[hw];exact hc
  split at hs
  .rename_i x hop;obtain⟨hd,hs⟩:=ae hs;cases hs;refine VD.step ho hd (sf (by unfold aJ;rw[hop]) hg (by unfold yR;rw[hop])) (λz=>?_) K;rw[hop]at z;simp[jr]at z
  .obtain⟨hq,hs⟩:=ae hs;unfold Gi at hs
   split at hs
   .rename_i v hv;obtain⟨hd,hs⟩:=ae hs;cases hs;exact VD.step ho hd (AN (yT hq).1 hg hv) (λ_=>K.1) K.2
   .cases hs
theorem tX {c c':cg}(hs:qQ P N rs c=ω c') (K:CF P N rs Q c'):CF P N rs Q c:=by
 cases c with
 | code c k F h=>exact AS hs K
 | ops ops l k F h=>
  cases l with
  | nil=>cases hs;exact λfr hs=>WD.nil ⟨F,hs,K⟩
  | cons p l=>
   obtain⟨j,a⟩:=p;have hs':(match ops[j]? with | some o=>G0 P N ops a l k F h o | none=>ξ)=ω c':=hs
   split at hs'
   .rename_i o ho;exact EU ho hs' K
   .cases hs'
 | chk ops a l k F h=>
  cases a with
  | nil=>cases hs;exact⟨rfl,K⟩
  | cons i a=>
   have hs':EP P ops a l k F h ops[i]? = ω c':=hs;unfold EP at hs'
   split at hs'
   .rename_i o ho;cases hz:(looks P o.op && ib ops F o) with
    | true=>rw[hz]at hs';cases hs'
    | false=>
     rw[hz]at hs';cases hs';refine⟨AG.cons ?_ K.1,K.2⟩;unfold gO;rw[ho];simp only;cases hl:looks P o.op with
     | false=>rfl
     | true=>rw[hl]at hz;simp only[Bool.true_and]at hz;rw[hz];rfl
   .cases hs'
 | out e k F h=>exact Dg hs K
 | res l acc F h=>
  cases l with
  | nil=>cases hs
  | cons r l=>
   cases r with
   | cell a t=>cases hs
   | tmp t=>
    have hs':EQ l acc F h (F t)=ω c':=hs;unfold EQ at hs'
    split at hs'
    .rename_i v hv;cases hs';obtain⟨vs,k1,k2⟩:=K;exact⟨v :: vs,.tmp hv k1,by rw[List.append_assoc]at k2;exact k2⟩
    .cases hs'
 | bad=>cases hs
theorem xB:∀(n:Nat) (c:cg),CF P N rs Q (ES P N rs n c)->CF P N rs Q c
 | 0,c,K=>K
 | n+1,c,K=>by
  have K':CF P N rs Q (vS c (ES P N rs n) (qQ P N rs c)):=K;unfold vS at K'
  split at K'
  .rename_i c' hs;exact tX hs (xB n c' K')
  .exact K'
theorem bq {c:cg}(K:CF P N rs Q (rn P N rs c)):CF P N rs Q c:=xB _ _ K
theorem qR {c:cg}{o:Oper}{v:Value}{h':AH}(hc:fi c=ω (ops,o,F,h)) (hop:∀fr:Fr,fr.get=F->W1 P ops o fr h (λfr' h2=>fr' = dp fr o.dst v/\h2=h')) (K:CF P N rs Q (Df N c v h')):CF P N rs Q c:=by
 unfold fi at hc
 split at hc
 .rename_i ops' j a l k F' h0
  split at hc
  .rename_i o' ho;obtain⟨hg,hc⟩:=ae hc;injection hc with hc;injection hc with e1 hc;injection hc with e2 hc;injection hc with e3 e4;subst e1 e2 e3 e4;have K':CF P N rs Q (match ops'[j]? with | some o=>cond (En N o.dst) (.chk ops' a l k (tW F' o.dst v) h') .bad | none=>.bad):=K;rw[ho]at K';simp only at K';cases hd:En N o'.dst with
   | false=>rw[hd]at K';exact K'.elim
   | true=>
    rw[hd]at K';exact VD.step ho hd hop (λ_=>K'.1) K'.2
  .cases hc
 .cases hc
end
end
end Eva
end
section
open Go Go.RowKit
namespace Eva
def Gk (ih:Value->Prop):Value->Prop
 | .bool _ | .int _ _ | .string _ | ψ ξ | .map _ | .nilFunc | .nilIface=>True
 | ψ (ω a)=>a.spot=ξ
 | η ξ _ _=>True
 | .slice (ω a) _ _=>a.spot=a.spot
 | .iface _ v=>ih v
 | .agg cs | .tuple cs=>∀v∈cs.toList,ih v
 | .func (.func _) f c=>(∀v∈f.toList,ih v)/\∀v∈c.toList,ih v
 | _=>False
def ku:Nat->Value->Prop
 | 0,_=>False
 | n+1,v=>Gk (ku n) v
abbrev aS (v:Value):Prop:=ku 6 v
theorem fY {ih:Value->Value->Bool}:∀l:List Value,(∀v∈l,ih v v=true)->pP ih l l=true
 | [],_=>rfl
 | x :: l,h=>by
  unfold pP;rw[h x (by simp)];exact fY l λv hv=>h v (List.mem_cons_of_mem _ hv)
theorem mw (a:Addr):lA a a=true:=by
 unfold lA;rw[Nat.beq_refl,Nat.beq_refl];cases a.spot with
 | none=>rfl
 | some i=>exact Nat.beq_refl i
theorem fZ:∀(n:Nat){v:Value},ku n v->CQ n v v=true
 | 0,v,h=>h.elim
 | n+1,v,h=>by
  show mG (CQ n) v v=true;cases v with
  | bool b=>simp[mG]
  | int k x=>simp[mG]
  | string s=>simp[mG]
  | pointer p=>
   cases p with
   | none=>rfl
   | some a=>exact mw a
  | slice a l c=>
   cases a with
   | none=>simp[mG,Nat.beq_refl]
   | some a=>simp[mG,Nat.beq_refl];exact mw a
  | map r=>cases r <;>simp[mG,Nat.beq_refl]
  | nilFunc=>rfl
  | nilIface=>rfl
  | iface t u=>simp only[mG,Nat.beq_refl,Bool.true_and];exact fZ n h
  | agg cs=>exact fY _ λu hu=>fZ n (h u hu)
  | tuple cs=>exact fY _ λu hu=>fZ n (h u hu)
  | func g f c=>
   cases g with
   | func g=>
    simp only[mG,Nat.beq_refl,Bool.true_and];rw[fY _ λu hu=>fZ n (h.1 u hu),fY _ λu hu=>fZ n (h.2 u hu)];rfl
   | _=>exact h.elim
  | _=>exact h.elim
noncomputable section
def Hp:Value->Bool
 | .bool _ | .int _ _ | .string _ | ψ ξ | .map _ | .nilFunc | .nilIface=>true
 | ψ (ω ⟨_,_,ξ⟩)=>true
 | η ξ _ _=>true
 | .slice (ω _) _ _=>true
 | _=>false
theorem EV {v:Value}(h:Hp v=true):aS v:=by
 unfold Hp at h
 split at h <;>first | exact trivial | exact rfl | cases h
def G4 (P:Program) (h:AH) (t:TypeId):Value->Option (AH×Nat×Nat×Option Nat)
 | ψ (ω ⟨b,o,ξ⟩)=>match mu P t with
  | some f=>ω (h,b,o,f)
  | none=>ξ
 | _=>ξ
def G5 (P:Program) (F:FF) (h:AH):Op->Option (AH×Nat×Nat×Option Nat)
 | .load t x=>G4 P h t (bC F x)
 | _=>ξ
def FZ (P:Program):cg->Option (AH×Nat×Nat×Option Nat)
 | .chk ops (i :: _) _ _ F h=>match ops[i]? with
  | some o=>cond (CV ops F o) (G5 P F h o.op) ξ
  | none=>ξ
 | .res (.cell a t :: _) _ F h=>match F a with
  | some v=>G4 P h t v
  | none=>ξ
 | c=>match fi c with
  | some (_,o,F,h)=>G5 P F h o.op
  | none=>ξ
def AT (v:Value):cg->Option Value
 | .chk ops (i :: _) _ _ F _=>match ops[i]? with
  | some o=>match o.dst with
   | some d=>F d
   | none=>ξ
  | none=>ξ
 | _=>ω v
def Hq (v:Value):cg->Bool
 | .chk _ _ _ _ _ _=>Hp v
 | _=>true
def HU (P:Program) (c:cg):Option (AH×Nat×Nat×List Value):=
 match fi c with
 | some (_,o,F,h)=>match o.op,o.dst with
  | .store t x v,ξ=>match P.info? t,bC F x with
   | some i,ψ (ω ⟨b,k,ξ⟩)=>cond (Nat.beq (bC F v).cells.toList.length i.size) (ω (h,b,k,(bC F v).cells.toList)) ξ
   | _,_=>ξ
  | _,_=>ξ
 | none=>ξ
def HV (P:Program) (c:cg):Option (Option VH):=
 match fi c with
 | some (_,o,F,h)=>match aJ P o with
  | .loud=>ω (yR P o F h)
  | _=>ξ
 | none=>ξ
def Gl (P:Program) (c:cg):Option (Option Value):=
 match fi c with
 | some (_,o,F,h)=>match aJ P o with
  | .val=>ω (ji P o F h)
  | _=>ξ
 | none=>ξ
def Dh:Option (Option Value)->Option (IntKind×Int)
 | some (ω (.int k t))=>ω (k,t)
 | _=>ξ
def HW (P:Program) (c:cg):Option Int:=
 match Dh (Gl P c) with
 | some (_,t)=>ω t
 | none=>ξ
def Hr (P:Program) (c:cg):IntKind:=
 match Dh (Gl P c) with
 | some (k,_)=>k
 | none=>.i64
def Eo:Op->Option (Bool×Operand×Operand)
 | .binOp .quo _ x y _=>ω (false,x,y)
 | .binOp .rem _ x y _=>ω (true,x,y)
 | _=>ξ
def HX (rem:Bool) (a b:Value):Option (IntKind×Int×Int):=
 match a,b with
 | .int k a,.int l b=>cond (k == l) (ω (k,b,cond rem (Int.tmod a b) (k.wrap (Int.tdiv a b)))) ξ
 | _,_=>ξ
def G6 (c:cg):Option (IntKind×Int×Int):=
 match fi c with
 | some (_,o,F,_)=>match Eo o.op with
  | some (r,x,y)=>HX r (bC F x) (bC F y)
  | none=>ξ
 | none=>ξ
def HY (c:cg):Option (Int×Int):=
 match G6 c with
 | some (_,b,t)=>ω (b,t)
 | none=>ξ
def Hs (c:cg):IntKind:=
 match G6 c with
 | some (k,_)=>k
 | none=>.i64
def Gm (op:BinOp) (a b:Int):Option Bool:=
 match op with
 | .lss=>ω (decide (a<b))
 | .leq=>ω (decide (a<=b))
 | .gtr=>ω (decide (b<a))
 | .geq=>ω (decide (b<=a))
 | .eql=>ω (a == b)
 | .neq=>ω (a == b)
 | _=>ξ
def Gn (op:BinOp) (x y:Value):Option Bool:=
 match x,y with
 | .int k a,.int l b=>cond (k == l) (Gm op a b) ξ
 | _,_=>ξ
def AU:BinOp->Bool
 | .neq=>true
 | _=>false
def Ht (c:cg):Option Bool:=
 match fi c with
 | some (_,o,F,_)=>match o.op with
  | .binOp op _ x y _=>Gn op (bC F x) (bC F y)
  | _=>ξ
 | none=>ξ
def Gp (c:cg):Bool:=
 match fi c with
 | some (_,o,_,_)=>match o.op with
  | .binOp op _ _ _ _=>AU op
  | _=>false
 | none=>false
def HZ (P:Program) (d:Option TypeDesc) (x:Value) (i:Option Nat):Option (Nat×Nat×Nat×Nat×Nat):=
 match d,x,i with
 | some (.slice e),η (ω ⟨b,o,ξ⟩) n _,ω k=>match P.info? e with
  | some i=>ω (b,o,n,k,i.size)
  | none=>ξ
 | some (.array n e),ψ (ω ⟨b,o,ξ⟩),ω k=>match P.info? e with
  | some i=>ω (b,o,n,k,i.size)
  | none=>ξ
 | _,_,_=>ξ
def Ha (P:Program) (c:cg):Option (Nat×Nat×Nat×Nat×Nat):=
 match fi c with
 | some (_,o,F,_)=>match o.op with
  | .indexAddr t x ix=>HZ P (P.underlying t) (bC F x) (bY (bC F ix))
  | _=>ξ
 | none=>ξ
def H0 (P:Program) (c:cg):Option (Nat×Nat):=
 match Ha P c with
 | some (_,_,n,k,_)=>ω (n,k)
 | none=>ξ
def Hu (P:Program) (c:cg):Value:=
 match Ha P c with
 | some (b,o,_,k,s)=>ψ (ω ⟨b,cond (Nat.beq s 1) (o+k) (o+k*s),ξ⟩)
 | none=>undef
def Hv (P:Program) (c:cg):Option (AH×yw):=
 match fi c with
 | some (_,o,F,h)=>match aJ P o with
  | .lay=>match De P o F with
   | some b=>ω (h,b)
   | none=>ξ
  | _=>ξ
 | none=>ξ
def Ia (P:Program) (c:cg):Option (AH×AO):=
 match Hv P c with
 | some (h,b,_)=>ω (h,b)
 | none=>ξ
def Hw (P:Program) (c:cg):Value:=
 match Hv P c with
 | some (h,_,f)=>f h.next
 | none=>undef
def xC (e:TypeId):Option TypeInfo->Option (List Value)
 | some i=>match i.zero with
  | some z=>cond (Nat.blt i.bytes 10000 && fF z i.size) (ω z.cells.toList) ξ
  | none=>ξ
 | none=>ξ
def Hx (P:Program) (c:cg):Option (AH×TypeId×List Value×Option Nat×Option Nat):=
 match fi c with
 | some (_,o,F,h)=>match o.op with
  | .makeSlice t l c=>match P.underlying t with
   | some (.slice e)=>match xC e (P.info? e) with
    | some zl=>ω (h,e,zl,bY (bC F l),bY (bC F c))
    | none=>ξ
   | _=>ξ
  | _=>ξ
 | none=>ξ
def Hy (P:Program) (c:cg):Option (AH×Option (FuncId×List Value)):=
 match fi c with
 | some (_,o,F,h)=>match o.op with
  | .call c=>match c.callee with
   | .value _=>ω (h,xz P o F)
   | _=>ξ
  | _=>ξ
 | none=>ξ
def Ib:cg->Option (Value×AH)
 | .res [] acc _ h=>ω (one acc,h)
 | _=>ξ
def gM:cg->Option ((FF->AH->Prop)×AH)
 | .out .normal (.rnd g :: _) _ h=>ω (g,h)
 | _=>ξ
def Di:cg->Option AH
 | .code (.loop _) _ _ h=>ω h
 | _=>ξ
def Ep (c:cg) (g:FF->AH->Prop) (h:AH) (F:FF):cg:=
 match c with
 | .code (.loop b) k _ _=>.code b (.rnd g :: k) F h
 | _=>.bad
def Hb (c:cg) (g:FF->AH->Prop):cg:=
 match c with
 | .code b k F h=>.code b (.rnd g :: k) F h
 | _=>.bad
def Hc (c:cg) (h:AH) (F:FF):cg:=
 match c with
 | .code _ k _ _=>.out .normal k F h
 | _=>.bad
def AV (id:Nat):cg->Bool
 | .code (.block i _) _ _ _=>Nat.beq (2*i) id
 | .code (.cond (.tmp t) _ _) _ _ _=>Nat.beq (2*t+1) id
 | _=>false
def Dj (P:Program) (N:Nat) (rs:List ResultVar) (id n:Nat):cg->cg:=Nat.rec (motive:=λ_=>cg->cg) (λc=>c) (λ_ ih c=>cond (AV id c) c (vS c ih (qQ P N rs c))) n
def rj (P:Program) (N:Nat) (rs:List ResultVar) (id:Nat) (c:cg):cg:=Dj P N rs id 1000 c
def Dk (g:FF->AH->Prop) (F:FF) (h:AH):Prop:=g F h
def br (l:List Nat) (F:FF):List (Option Value):=l.map F
def eV (l:List Value):List (Option Value):=l.map ω
def CW:List Nat->List Value->FF->FF
 | s :: ss,v :: vs,G=>FF.put (CW ss vs G) s v
 | _,_,G=>G
def kv (fix:List Nat) (F G:FF):FF:=λk=>cond (mem k fix) (F k) (G k)
section
variable {P:Program}{N:Nat}{rs:List ResultVar}{Q:Value->AH->Prop}{ops:Array Oper}{F:FF}{h:AH}{c:cg}
theorem EW {o:Oper}(hc:fi c=ω (ops,o,F,h)):FY c=h:=by
 unfold fi at hc
 split at hc
 .split at hc
  .obtain⟨_,hc⟩:=ae hc;injection hc with hc;injection hc with e1 hc;injection hc with e2 hc;injection hc with e3 e4
  .cases hc
 .cases hc
theorem lK {o:Oper}(hc:fi c=ω (ops,o,F,h)):CV ops F o=true:=by
 unfold fi at hc
 split at hc
 .split at hc
  .obtain⟨hg,hc⟩:=ae hc;injection hc with hc;injection hc with e1 hc;injection hc with e2 hc;injection hc with e3 e4;subst e1 e2 e3;exact hg
  .cases hc
 .cases hc
theorem jF {o:Oper}{v:Value}(hc:fi c=ω (ops,o,F,h)) (hk:aJ P o = .val) (hv:ji P o F h=ω v) (K:CF P N rs Q (yS N c v)):CF P N rs Q c:=by
 unfold yS at K;rw[EW hc]at K;exact qR hc (AN hk (lK hc) hv) K
theorem AW {t:TypeId}{x:Value}{b o:Nat}{f:Option Nat}{h':AH}(hv:G4 P h t x=ω (h',b,o,f)):h' = h/\x = ψ (ω ⟨b,o,ξ⟩)/\mu P t=ω f:=by
 unfold G4 at hv
 split at hv
 .split at hv
  .rename_i hf;injection hv with hv;injection hv with e1 hv;injection hv with e2 hv;injection hv with e3 e4;subst e1 e2 e3 e4;exact⟨rfl,rfl,hf⟩
  .cases hv
 .cases hv
theorem AX {op:Op}{b o:Nat}{f:Option Nat}{h':AH}(hv:G5 P F h op=ω (h',b,o,f)):h' = h/\∃t x,op = .load t x/\bC F x = ψ (ω ⟨b,o,ξ⟩)/\mu P t=ω f:=by
 unfold G5 at hv
 split at hv
 .rename_i t x;obtain⟨a1,a2,a3⟩:=AW hv;exact⟨a1,t,x,rfl,a2,a3⟩
 .cases hv
theorem xD {o:Oper}{t:TypeId}{x:Operand}{b k:Nat}{v:Value}(hop:o.op = .load t x) (hx:bC F x = ψ (ω ⟨b,k,ξ⟩)) (hl:EN P t h b k=ω v):aJ P o = .val/\ji P o F h=ω v:=by
 refine⟨by unfold aJ;rw[hop],?_⟩;unfold ji;rw[hop];show ia P t (bC F x) h=ω v;rw[hx];exact hl
theorem xE {b o:Nat}{f:Option Nat}{v:Value}(hv:FZ P c=ω (h,b,o,f)) (hl:∀t,mu P t=ω f->EN P t h b o=ω v) (ho:AT v c=ω v) (he:aS v\/Hq v c=true) (K:CF P N rs Q (yS N c v)):CF P N rs Q c:=by
 unfold FZ at hv
 split at hv
 .rename_i ops i a l k F h'
  split at hv
  .rename_i op hop;obtain⟨hg,hv⟩:=ae hv;obtain⟨rfl,t,x,h1,h2,h3⟩:=AX hv;have hev:=xD h1 h2 (hl t h3);have he':aS v:=he.elim id EV;have hold:(match ops[i]? with | some o=>(match o.dst with | some d=>F d | none=>ξ) | none=>ξ)=ω v:=ho;rw[hop]at hold;simp only at hold;refine⟨AG.cons ?_ K.1,K.2⟩;unfold gO;rw[hop];simp only;have hlk:looks P op.op=true:=by rw[h1];rfl
   rw[hlk,(fX hg).1,hev.2];simp only[cond_true];unfold xA
   split at hold
   .rename_i d hd;simp only[hd,hold];exact fZ 6 he'
   .cases hold
  .cases hv
 .rename_i a t l acc F h'
  split at hv
  .rename_i x hx;obtain⟨rfl,h2,h3⟩:=AW hv;obtain⟨vs,k1,k2⟩:=K;exact⟨v :: vs,.cell (by rw[hx,h2]) (hl t h3) k1,by rw[List.append_assoc]at k2;exact k2⟩
  .cases hv
 .split at hv
  .rename_i ops op F h' hc;obtain⟨rfl,t,x,h1,h2,h3⟩:=AX hv;have hev:=xD h1 h2 (hl t h3);exact jF hc hev.1 hev.2 K
  .cases hv
theorem Io {b o:Nat}{v:Value}{R:Prop}(H:ldC h b o=ω v/\R) (K:R->CF P N rs Q (yS N c v)) (hv:FZ P c=ω (h,b,o,ξ):=by kernel_rfl) (ho:AT v c=ω v:=by kernel_rfl) (he:Hq v c=true:=by kernel_rfl):CF P N rs Q c:=
 (xE hv (λt ht=>Gf ht H.1) ho (.inr he) (K H.2))
theorem Ip {b o:Nat}{v:Value}{R:Prop}(H:ldC h b o=ω v/\aS v/\R) (K:R->CF P N rs Q (yS N c v)) (hv:FZ P c=ω (h,b,o,ξ):=by kernel_rfl) (ho:AT v c=ω v:=by kernel_rfl):CF P N rs Q c:=
 (xE hv (λt ht=>Gf ht H.1) ho (.inl H.2.1) (K H.2.2))
theorem Iq {b o n:Nat}{v:List Value}{R:Prop}(H:au h b o n=ω v/\R) (K:R->CF P N rs Q (yS N c (.agg v.toArray))) (hv:FZ P c=ω (h,b,o,ω n):=by kernel_rfl) (ho:AT (.agg v.toArray) c=ω (.agg v.toArray):=by kernel_rfl) (he:Hq (.agg v.toArray) c=true:=by kernel_rfl):CF P N rs Q c:=
 (xE hv (λt ht=>Gg ht H.1) ho (.inr he) (K H.2))
theorem Ir {b o n:Nat}{v:List Value}{w:Value}{R:Prop}(H:au h b o n=ω v/\aS w/\R) (K:R->CF P N rs Q (yS N c (.agg v.toArray))) (hw:w = .agg v.toArray:=by kernel_rfl) (hv:FZ P c=ω (h,b,o,ω n):=by kernel_rfl) (ho:AT (.agg v.toArray) c=ω (.agg v.toArray):=by kernel_rfl):CF P N rs Q c:=
 (xE hv (λt ht=>Gg ht H.1) ho (.inl (hw ▸ H.2.1)) (K H.2.2))
theorem Is {b o:Nat}{vs:List Value}{h2:AH}{R:Prop}(H:iE h b o vs=ω h2/\R) (K:R->CF P N rs Q (Df N c undef h2)) (hv:HU P c=ω (h,b,o,vs):=by kernel_rfl):CF P N rs Q c:=by
 have K:=K H.2;have hs:=H.1;unfold HU at hv
 split at hv
 .rename_i ops op F h0 hc
  split at hv
  .rename_i t x y hop hdst
   split at hv
   .rename_i i b' k' hi hp;obtain⟨hb,hv⟩:=ae hv;injection hv with hv;injection hv with e1 hv;injection hv with e2 hv;injection hv with e3 e4;subst e1 e2 e3;refine qR hc (sf (by unfold aJ;rw[hop]) (lK hc) ?_) K;unfold yR;rw[hop];show lB h0 (P.info? t) (bC F x) (bC F y)=_;rw[hi,hp];unfold lB;simp only[hb,cond_true];unfold iE at hs;rw[e4,hs]
   .cases hv
  .cases hv
 .cases hv
theorem lu {X:Option VH}{v:Value}{h2:AH}{R:Prop}(H:X=ω (v,h2)/\R) (K:R->CF P N rs Q (Df N c v h2)) (hv:HV P c=ω X:=by kernel_rfl):CF P N rs Q c:=by
 have K:=K H.2;unfold HV at hv
 split at hv
 .rename_i ops op F h0 hc
  split at hv
  .rename_i hk;injection hv with hv;exact qR hc (sf hk (lK hc) (hv.trans H.1)) K
  .cases hv
 .cases hv
theorem AY {X:Option Value}(hv:Gl P c=ω X):∃ops o F h,fi c=ω (ops,o,F,h)/\aJ P o = .val/\ji P o F h=X:=by
 unfold Gl at hv
 split at hv
 .rename_i ops op F h0 hc
  split at hv
  .rename_i hk;injection hv with hv;exact⟨_,_,_,_,hc,hk,hv⟩
  .cases hv
 .cases hv
theorem vx {X:Option Value}{v:Value}{R:Prop}(H:X=ω v/\R) (K:R->CF P N rs Q (yS N c v)) (hv:Gl P c=ω X:=by kernel_rfl):CF P N rs Q c:=
 let ⟨_,_,_,_,h1,h2,h3⟩:=AY hv
 (jF h1 h2 (h3.trans H.1) (K H.2))
theorem Dl {X:Option (Option Value)}{k:IntKind}{t:Int}(h:Dh X=ω (k,t)):X=ω (ω (.int k t)):=by
 unfold Dh at h
 split at h
 .injection h with h;injection h with h1 h2;subst h1 h2;rfl
 .cases h
theorem wr {t r:Int}{R:Prop}(H:t=r/\R) (K:R->CF P N rs Q (yS N c (.int (Hr P c) r))) (hv:HW P c=ω t:=by kernel_rfl):CF P N rs Q c:=by
 have K:=K H.2;unfold HW at hv
 split at hv
 .rename_i k t' hi;injection hv with hv;obtain⟨_,_,_,_,h1,h2,h3⟩:=AY (Dl hi);have hk:Hr P c=k:=by unfold Hr;rw[hi]
  rw[hk,<-H.1,<-hv]at K;exact jF h1 h2 h3 K
 .cases hv
theorem Dm {o:Oper}{t yt:TypeId}{x y:Operand}{k:IntKind}{a b:Int}(ho:o.op = .binOp .quo t x y yt) (hx:bC F x = .int k a) (hy:bC F y = .int k b) (hz:b≠0):oJ P o F=ω (.int k (k.wrap (a.tdiv b))):=by
 unfold oJ;have h1:(aU (λz=>pl (bC F z)) o.op.operands.toList)=true:=by
  rw[ho];show aU (λz=>pl (bC F z)) [x,y]=true;unfold aU;simp only[hx,hy];rfl
 rw[h1];simp only[cond_true];unfold execOp;rw[ho];simp only[hx,hy];unfold binOp;simp[Op.intDiv,hz];rfl
theorem Dn {o:Oper}{t yt:TypeId}{x y:Operand}{k:IntKind}{a b:Int}(ho:o.op = .binOp .rem t x y yt) (hx:bC F x = .int k a) (hy:bC F y = .int k b) (hz:b≠0):oJ P o F=ω (.int k (a.tmod b)):=by
 unfold oJ;have h1:(aU (λz=>pl (bC F z)) o.op.operands.toList)=true:=by
  rw[ho];show aU (λz=>pl (bC F z)) [x,y]=true;unfold aU;simp only[hx,hy];rfl
 rw[h1];simp only[cond_true];unfold execOp;rw[ho];simp only[hx,hy];unfold binOp;simp[Op.intDiv,hz];rfl
theorem EX {k:IntKind}{b t:Int}(hv:G6 c=ω (k,b,t)) (hz:b≠0):∃ops o F h,fi c=ω (ops,o,F,h)/\aJ P o = .val/\ji P o F h=ω (.int k t):=by
 unfold G6 at hv
 split at hv
 .rename_i ops o F h0 hc
  split at hv
  .rename_i r x y hq;unfold HX at hv
   split at hv
   .rename_i k' a l b' hx hy;obtain⟨hkl,hv2⟩:=ae hv;clear hv;have hkl:=eq_of_beq hkl;subst hkl;injection hv2 with hv;injection hv with e1 hv;injection hv with e2 e3;subst e1 e2 e3;refine⟨ops,o,F,h0,hc,?_⟩;unfold Eo at hq
    split at hq
    .rename_i t x' y' yt hop;injection hq with hq;injection hq with e1 hq;injection hq with e2 e3;subst e1 e2 e3;refine⟨by unfold aJ;rw[hop],?_⟩;unfold ji;rw[hop];show oK P .quo t o F (bC F x') (bC F y')=_;rw[hx,hy];unfold oK;simp only[beq_self_eq_true,cond_true];exact Dm hop hx hy hz
    .rename_i t x' y' yt hop;injection hq with hq;injection hq with e1 hq;injection hq with e2 e3;subst e1 e2 e3;refine⟨by unfold aJ;rw[hop],?_⟩;unfold ji;rw[hop];show oK P .rem t o F (bC F x') (bC F y')=_;rw[hx,hy];unfold oK;simp only[beq_self_eq_true,cond_true];exact Dn hop hx hy hz
    .cases hq
   .cases hv
  .cases hv
 .cases hv
theorem qo {b t r:Int}{R:Prop}(H:b≠0/\t=r/\R) (K:R->CF P N rs Q (yS N c (.int (Hs c) r))) (hv:HY c=ω (b,t):=by kernel_rfl):CF P N rs Q c:=by
 have K:=K H.2.2;unfold HY at hv
 split at hv
 .rename_i k b' t' hi;injection hv with hv;injection hv with e1 e2;subst e1 e2;obtain⟨_,_,_,_,h1,h2,h3⟩:=EX (P:=P) hi H.1;have hk:Hs c=k:=by unfold Hs;rw[hi]
  rw[hk,<-H.2.1]at K;exact jF h1 h2 h3 K
 .cases hv
theorem EY {q:Bool}(hv:Ht c=ω q):∃ops o F h,fi c=ω (ops,o,F,h)/\aJ P o = .val/\ji P o F h=ω (.bool (xor (Gp c) q)):=by
 unfold Ht at hv
 split at hv
 .rename_i ops o F h0 hc
  split at hv
  .rename_i op t x y yt hop;refine⟨ops,o,F,h0,hc,by unfold aJ;rw[hop],?_⟩;have hn:Gp c=AU op:=by unfold Gp;rw[hc];simp only[hop]
   unfold ji;rw[hop,hn];show oK P op t o F (bC F x) (bC F y)=_;unfold Gn at hv
   split at hv
   .rename_i k a l b hx hy;obtain⟨hkl,hv⟩:=ae hv;rw[hx,hy];unfold oK;simp only[hkl,cond_true];unfold Gm at hv;cases op <;>simp only at hv <;>first | (cases hv;done) | (injection hv with hv;subst hv;simp[qu,AU,bne])
   .cases hv
  .cases hv
 .cases hv
theorem ts {p:Prop} [Decidable p] {A B:Prop}(H:(p->A)/\(¬p->B)) (K1:A->CF P N rs Q (yS N c (.bool (Bool.not (Gp c))))) (K2:B->CF P N rs Q (yS N c (.bool (Gp c)))) (hv:Ht c=ω (decide p):=by kernel_rfl):CF P N rs Q c:=by
 obtain⟨_,_,_,_,h1,h2,h3⟩:=EY (P:=P) hv;by_cases hp:p
 .refine jF h1 h2 (h3.trans ?_) (K1 (H.1 hp));simp[hp]
 .refine jF h1 h2 (h3.trans ?_) (K2 (H.2 hp));simp[hp]
theorem EZ {b o n k s:Nat}(hv:Ha P c=ω (b,o,n,k,s)) (hk:k<n):∃ops op F h,fi c=ω (ops,op,F,h)/\aJ P op = .val/\ji P op F h=ω (ψ (ω ⟨b,o+k*s,ξ⟩)):=by
 unfold Ha at hv
 split at hv
 .rename_i ops op F h0 hc
  split at hv
  .rename_i t x ix hop;refine⟨ops,op,F,h0,hc,by unfold aJ;rw[hop],?_⟩;unfold ji;rw[hop];show dI P (P.underlying t) (bC F x) (bY (bC F ix))=_;have hi:∀(e:TypeId) (i:TypeInfo),P.info? e=ω i->idx P e ⟨b,o,ξ⟩ n k=ω (ψ (ω ⟨b,o+k*i.size,ξ⟩)):=by
    intro e i h1;unfold idx;simp only[h1];have:Nat.blt k n=true:=Nat.ble_eq_true_of_le hk;rw[this];simp only[cond_true];unfold Addr.add
    split
    .rename_i h0;simp[h0]
    .rfl
   unfold HZ at hv;unfold dI
   split at hv
   .rename_i e b' o' n' K' k' hu hx hn
    split at hv
    .rename_i i hi0;injection hv with hv;injection hv with e1 hv;injection hv with e2 hv;injection hv with e3 hv;injection hv with e4 e5;subst e1 e2 e3 e4 e5;rw[hu,hx,hn];exact hi e i hi0
    .cases hv
   .rename_i n' e b' o' k' hu hx hn
    split at hv
    .rename_i i hi0;injection hv with hv;injection hv with e1 hv;injection hv with e2 hv;injection hv with e3 hv;injection hv with e4 e5;subst e1 e2 e3 e4 e5;rw[hu,hx,hn];exact hi e i hi0
    .cases hv
   .cases hv
  .cases hv
 .cases hv
theorem ix {n k:Nat}{R:Prop}(H:k<n/\R) (K:R->CF P N rs Q (yS N c (Hu P c))) (hv:H0 P c=ω (n,k):=by kernel_rfl):CF P N rs Q c:=by
 have K:=K H.2;unfold H0 at hv
 split at hv
 .rename_i b o n' k' s hi;injection hv with hv;injection hv with e1 e2;subst e1 e2;obtain⟨_,_,_,_,h1,h2,h3⟩:=EZ hi H.1;have hV:Hu P c = ψ (ω ⟨b,o+k'*s,ξ⟩):=by
   unfold Hu;rw[hi];simp only;cases hs:Nat.beq s 1 with
   | false=>rfl
   | true=>rw[av hs,Nat.mul_one];rfl
  rw[hV]at K;exact jF h1 h2 h3 K
 .cases hv
theorem nw {ao:AO}{R:AH->Prop}(H:∀h2,h2=AH.new h ao->R h2) (K:∀h2,h2=AH.new h ao->R h2->CF P N rs Q (Df N c (Hw P c) h2)) (hv:Ia P c=ω (h,ao):=by kernel_rfl):CF P N rs Q c:=by
 have K:=K _ rfl (H _ rfl);unfold Ia at hv
 split at hv
 .rename_i h' b f hi;injection hv with hv;injection hv with e1 e2;subst e1 e2;have hV:Hw P c=f h'.next:=by unfold Hw;rw[hi]
  rw[hV]at K;unfold Hv at hi
  split at hi
  .rename_i ops o F h0 hc
   split at hi
   .rename_i hk
    split at hi
    .rename_i b' hb;injection hi with hi;injection hi with e1 e2;subst e1 e2;exact qR hc (AP hk (lK hc) hb) K
    .cases hi
   .cases hi
  .cases hi
 .cases hv
theorem Ic {e n k:Nat}{zl:List Value}{R:AH->Prop}(H:n<=k/\k<1000000/\∀h2,h2=AH.new h (.cells (dJ k zl) e false)->R h2) (K:∀h2,h2=AH.new h (.cells (dJ k zl) e false)->R h2->CF P N rs Q (Df N c (η (ω ⟨h.next,0,ξ⟩) n (cx k)) h2)) (hv:Hx P c=ω (h,e,zl,ω n,ω k):=by kernel_rfl):CF P N rs Q c:=by
 obtain⟨hn,hc,H⟩:=H;have K:=K _ rfl (H _ rfl);unfold Hx at hv
 split at hv
 .rename_i ops o F h0 hat
  split at hv
  .rename_i t x y hop
   split at hv
   .rename_i e' hu
    split at hv
    .rename_i zl' hz;injection hv with hv;injection hv with h1 hv;injection hv with h2 hv;injection hv with h3 hv;injection hv with h4 h5;subst h1 h2 h3;refine qR hat (AP (ao:=.cells (dJ k zl') e' false) (f:=mH n (cx k)) (by unfold aJ;rw[hop]) (lK hat) ?_) K;unfold De;rw[hop];show eP P (P.underlying t) (bY (bC F x)) (bY (bC F y))=_;rw[hu,h4,h5];show xh e' n k (P.info? e')=_;unfold xC at hz;unfold xh
     split at hz
     .rename_i i hi;rw[hi];simp only
      split at hz
      .rename_i z hz0;rw[hz0];simp only;have hb1:Nat.ble n k=true:=Nat.ble_eq_true_of_le hn;have hb2:Nat.blt k 1000000=true:=Nat.ble_eq_true_of_le hc;obtain⟨hzz,hz⟩:=ae hz;injection hz with hz;simp only[Bool.and_eq_true]at hzz;rw[hb1,hb2,hzz.1,hzz.2];simp only[Bool.and_self,cond_true,hz]
      .cases hz
     .cases hz
    .cases hv
   .cases hv
  .cases hv
 .cases hv
theorem mk {e k:Nat}{zl:List Value}{R:AH->Prop}(H:k<1000000/\∀h2,h2=AH.new h (.cells (dJ k zl) e false)->R h2) (K:∀h2,h2=AH.new h (.cells (dJ k zl) e false)->R h2->CF P N rs Q (Df N c (η (ω ⟨h.next,0,ξ⟩) k (cx k)) h2)) (hv:Hx P c=ω (h,e,zl,ω k,ω k):=by kernel_rfl):CF P N rs Q c:=
 Ic ⟨Nat.le_refl _,H⟩ K hv
theorem ca {g:FuncId}{args:List Value}{R:Value->AH->Prop}(H:WC P g args h R) (K:∀v h2,R v h2->CF P N rs Q (Df N c v h2)) (hv:Hy P c=ω (h,ω (g,args)):=by kernel_rfl):CF P N rs Q c:=by
 unfold Hy at hv
 split at hv
 .rename_i ops o F h0 hc
  split at hv
  .rename_i cl hop
   split at hv
   .rename_i f hcl;injection hv with hv;injection hv with e1 e2;subst e1;obtain⟨n,v,h',hr,hK⟩:=H;refine qR hc (λfr hfr=>?_) (K v h' hK);obtain⟨hw,hco⟩:=fX (lK hc);refine W1.wanted (by rw[lJ,hfr];exact hw) (W1.call (g:=g) (args:=args) rfl hco ?_ ?_ ?_ ⟨n,v,h',hr,rfl,rfl⟩)
    .show aJ P o = .loud;unfold aJ;simp only[hop,hcl]
    .show tB P o fr h0=ξ;rw[Ej];unfold yR;rw[hop];show vQ P fr.get h0 cl=ξ;unfold vQ;rw[hcl]
    .show callee P o fr=_;rw[AK,hfr];exact e2
   .cases hv
  .cases hv
 .cases hv
theorem fc {g:FuncId}{args:List Value}{R:Value->AH->Prop}(H:fH P g=true/\WC P g args h R) (K:∀v h2,R v h2->CF P N rs Q (Df N c v h2)) (hv:Hy P c=ω (h,cond (fH P g) (ω (g,args)) ξ):=by kernel_rfl):CF P N rs Q c:=
 ca H.2 K (by rw[hv,H.1];rfl)
theorem fin {v:Value}(H:Q v h) (hv:Ib c=ω (v,h):=by kernel_rfl):CF P N rs Q c:=by
 unfold Ib at hv
 split at hv
 .rename_i acc F h';injection hv with hv;injection hv with e1 e2;subst e1 e2;exact⟨[],.nil,by rw[List.append_nil];exact H⟩
 .cases hv
theorem rE {g:FF->AH->Prop}(E:Dk g (vt c) h) (hv:gM c=ω (g,h):=by kernel_rfl):CF P N rs Q c:=by
 unfold gM at hv
 split at hv
 .injection hv with hv;injection hv with e1 e2;subst e1 e2;exact E
 .cases hv
theorem oL:∀(args:List Value) (i:Nat) (t:Tr Value) (k:Nat),(frame i args t).get k=if i<=k then(match aF args (k - i) with | some v=>ω v | none=>t.get k) else t.get k
 | [],i,t,k=>by
  show t.get k=_
  split <;>rfl
 | v :: l,i,t,k=>by
  show(frame (i+1) l (t.set i (ω v))).get k=_;rw[oL l (i+1) (t.set i (ω v)) k];by_cases hik:i+1<=k
  .rw[if_pos hik,if_pos U];obtain⟨m,hm⟩:∃m,k - i=m+1:=⟨k - i - 1,U⟩;have h2:k - (i+1)=m:=U;rw[hm,h2,Tr.get_set_ne _ _ U];rfl
  .rw[if_neg hik];by_cases e:i=k
   .subst e;rw[Tr.get_set,if_pos (Nat.le_refl _),Nat.sub_self];rfl
   .rw[Tr.get_set_ne _ _ e,if_neg U]
theorem vT:∀(ss:List Nat) (vs:List Value){F:FF},br ss F=eV vs->CW ss vs F=F
 | [],vs,F,_=>by cases vs <;>rfl
 | s :: ss,[],F,hl=>by cases hl
 | s :: ss,v :: vs,F,hl=>by
  injection hl with h1 h2;have ih:=vT ss vs (F:=F) h2;show FF.put (CW ss vs F) s v=F;rw[ih]
  funext k
  unfold FF.put;by_cases e:k=s
  .subst e;rw[Nat.beq_refl,h1];rfl
  .have hb:Nat.beq k s=false:=by
    cases hb:Nat.beq k s with
    | false=>rfl
    | true=>exact absurd (av hb) e
   rw[hb];rfl
theorem tY {fix:List Nat}{F G:FF}(hg:br fix G=br fix F):kv fix F G=G:=by
 funext k
 unfold kv;cases hm:mem k fix with
 | false=>rfl
 | true=>
  have hm:=iX.1 hm;have:∀l:List Nat,br l G=br l F->k∈l->G k=F k:=by
   intro l
   induction l with
   | nil=>intro _ h;cases h
   | cons s l ih=>
    intro h1 h2;injection h1 with a b;cases h2 with
    | head=>exact a
    | tail _ h2=>exact ih b h2
  exact(this fix hg hm).symm
theorem E0 {ι:Type}(fix mod:List Nat) (vals:ι->List Value) (J:Nat->ι->AH->Prop){m0:Nat}{x0:ι}(h0:J m0 x0 h)
  (K:∀m x h G g,(∀F h x,(∃m',m' < m/\J m' x h)->br mod F=eV (vals x)->br fix F=br fix (vt c)->Dk g F h)->J m x h->CF P N rs Q (Ep c g h (CW mod (vals x) (kv fix (vt c) G))))
  (hh:Di c=ω h) (hF:br mod (vt c)=eV (vals x0)):CF P N rs Q c:=by
 unfold Di at hh
 split at hh
 .rename_i b k F h';injection hh with hh;subst hh;intro fr hs;refine W.loop (λm fr h=>∃F' x,pW N F' fr/\J m x h/\br mod F' = eV (vals x)/\br fix F' = br fix F) m0 ⟨F,x0,hs,h0,hF,rfl⟩ ?_;rintro m fr h ⟨F',x,hs,hJ,h1,h2⟩;have k1:=K m x h F' (λF'' h''=>∃m' x',m' < m/\J m' x' h''/\br mod F'' = eV (vals x')/\br fix F'' = br fix F) (λF'' h'' x' ⟨m',a1,a2⟩ a3 a4=>⟨m',x',a1,a2,a3,a4⟩) hJ;have e:CW mod (vals x) (kv fix F F')=F':=by rw[tY h2];exact vT _ _ h1
  have k2:CF P N rs Q (.code b (.rnd _ :: k) (CW mod (vals x) (kv fix F F')) h):=k1;rw[e]at k2;refine(k2 fr hs).mono λe fr' h'=>?_;rintro⟨F'',hs',q⟩;cases e with
  | normal=>
   obtain⟨m',x',a1,a2,a3,a4⟩:=q;exact⟨m',a1,F'',x',hs',a2,a3,a4⟩
  | exit i=>exact⟨F'',hs',q⟩
  | ret=>exact⟨F'',hs',q⟩
 .cases hh
theorem xF {id:Nat}:∀(n:Nat) (c:cg),CF P N rs Q (Dj P N rs id n c)->CF P N rs Q c
 | 0,c,K=>K
 | n+1,c,K=>by
  have K':CF P N rs Q (cond (AV id c) c (vS c (Dj P N rs id n) (qQ P N rs c))):=K;cases hs:AV id c with
  | true=>rw[hs]at K';exact K'
  | false=>
   rw[hs]at K';have K2:CF P N rs Q (vS c (Dj P N rs id n) (qQ P N rs c)):=K';unfold vS at K2
   split at K2
   .rename_i c' hs;exact tX hs (xF n c' K2)
   .exact K2
theorem Hz {ι:Type}(id:Nat) (fix mod:List Nat) (vals:ι->List Value) (R:ι->AH->Prop)
  (K2:∀x h G,R x h->CF P N rs Q (Hc (rj P N rs id c) h (CW mod (vals x) (kv fix (vt (rj P N rs id c)) G))))
  (K1:∀g,(∀F h x,R x h->br mod F=eV (vals x)->br fix F=br fix (vt (rj P N rs id c))->Dk g F h)->CF P N rs Q (Hb (rj P N rs id c) g)):CF P N rs Q c:=by
 refine xF (id:=id) 1000 c ?_;show CF P N rs Q (rj P N rs id c);generalize rj P N rs id c=c at K1 K2;have k1:=K1 (λF' h'=>∃x,R x h'/\br mod F' = eV (vals x)/\br fix F' = br fix (vt c)) (λF' h' x a1 a2 a3=>⟨x,a1,a2,a3⟩);cases c with
 | code b k F h=>
  intro fr hs;refine(k1 fr hs).mono λe fr' h'=>?_;rintro⟨F',hs',q⟩;cases e with
  | normal=>
   obtain⟨x,a1,a2,a3⟩:=q;refine⟨F',hs',?_⟩;have k2:=K2 x h' F' a1;have e:CW mod (vals x) (kv fix F F')=F':=by rw[tY (F:=F) a3];exact vT _ _ a2
   have k3:CF P N rs Q (.out .normal k (CW mod (vals x) (kv fix F F')) h'):=k2;rw[e]at k3;exact k3
  | exit i=>exact⟨F',hs',q⟩
  | ret=>exact⟨F',hs',q⟩
 | _=>exact k1.elim
def AZ (p:Prop):Prop:=p
abbrev EG (c0:cg) (fix mod:List Nat) (g:FF->AH->Prop) (F:FF) (h:AH) (vs:List Value):Prop:=br mod F=eV vs->br fix F=br fix (vt c0)->Dk g F h
abbrev CX (c0:cg) (fix mod:List Nat) (vs:List Value) (G:FF):FF:=CW mod vs (kv fix (vt c0) G)
abbrev AQ (p:Option Addr) (R:Nat->Nat->Prop):Prop:=∃b o,p=ω ⟨b,o,ξ⟩/\R b o
abbrev NK (x:Int) (R:Nat->Prop):Prop:=∃k:Nat,x=(k:Int)/\R k
abbrev WR (t:Int) (R:Int->Prop):Prop:=∃x,IntKind.i64.wrap t=x/\R x
abbrev LI (h:AH) (b o:Nat) (R:Int->Prop):Prop:=∃x,ldC h b o=ω (.int .i64 x)/\R x
abbrev LZ (h:AH) (b o:Nat) (R:Option Addr->Nat->Nat->Prop):Prop:=∃A n K,ldC h b o=ω (η A n K)/\R A n K
abbrev LP (h:AH) (b o:Nat) (R:Option Addr->Prop):Prop:=∃p,ldC h b o=ω (.pointer p)/\R p
abbrev ST (h:AH) (b o:Nat) (vs:List Value) (R:AH->Prop):Prop:=∃h2,iE h b o vs=ω h2/\R h2
abbrev NW (h:AH) (ao:AO) (R:AH->Prop):Prop:=∀h2,h2=AH.new h ao->R h2
abbrev TS (p:Prop) (A B:Prop):Prop:=(p->A)/\(¬p->B)
abbrev BS (b:Bool) (A B:Prop):Prop:=(b=true->A)/\(b=false->B)
abbrev RE (m:Nat) (R:Nat->Prop):Prop:=∃m',m' < m/\R m'
theorem It {p R G:Prop}(H:AZ p/\R) (K:R->G):G:=K H.2
theorem Iu {α:Sort _}{p:α->Prop}{G:Prop}(H:∃x,p x) (K:∀x,p x->G):G:=let ⟨x,h⟩:=H;K x h
theorem HA {x:Int}{k:Nat}{R G:Prop}(H:x=(k:Int)/\R) (K:x=(k:Int)->R->G):G:=K H.1 H.2
theorem Iv {α:Type}{x y:α}{R G:Prop}(H:x=y/\R) (K:x=y->R->G):G:=K H.1 H.2
theorem Iw {b:Bool}{A B G:Prop}(H:(b=true->A)/\(b=false->B)) (K1:b=true->A->G) (K2:b=false->B->G):G:=by
 cases b
 .exact K2 rfl (H.2 rfl)
 .exact K1 rfl (H.1 rfl)
theorem Ix {α:Type}{x:Option α}{A B G:Prop}(H:(x=ξ->A)/\(x≠ξ->B)) (K1:x=ξ->A->G) (K2:True->B->G):G:=by
 cases x
 .exact K1 rfl (H.1 rfl)
 .exact K2 trivial (H.2 (by simp))
theorem Iy {e:Option (Nat×Value)}{A:Prop}{B:Nat->Value->Prop}{G:Prop}(H:(e=ξ->A)/\(∀t v,e=ω (t,v)->B t v)) (K1:e=ξ->A->G) (K2:∀t v,e=ω (t,v)->B t v->G):G:=by
 rcases e with _ | ⟨t,v⟩
 .exact K1 rfl (H.1 rfl)
 .exact K2 t v rfl (H.2 t v rfl)
abbrev Hd (fix mod:List Nat) (vals:List Value):Type:=Nat->AH->Prop
theorem Iz {fix mod:List Nat}{vals:List Value}{J:Hd fix mod vals}{m0:Nat}{R:Nat->AH->Prop}{T:Prop}(E:T) (H:J m0 h/\∀m h,J m h->R m h) (K:∀m h G g,((∀{F h},(∃m',m' < m/\J m' h)->EG c fix mod g F h (vals))/\T)->R m h->CF P N rs Q (Ep c g h (CX c fix mod (vals) G))) (hh:Di c=ω h:=by kernel_rfl) (hF:br mod (vt c)=eV (vals):=by kernel_rfl):CF P N rs Q c:=
 E0 (ι:=Unit) fix mod (λx=>vals) (λm x h=>J m h) (x0:=()) H.1 (λm x h G g e hJ=>K m h G g ⟨fun {F h}=>e F h (),E⟩ (H.2 m h hJ)) hh hF
abbrev He (id:Nat) (fix mod:List Nat) (vals:List Value):Type:=AH->Prop
theorem IA {id:Nat}{fix mod:List Nat}{vals:List Value}{J:He id fix mod vals}{R:AH->Prop}{T B:Prop}(E:T) (H:(∀h,J h->R h)/\B) (K2:∀h G,T->R h->CF P N rs Q (Hc (rj P N rs id c) h (CX (rj P N rs id c) fix mod (vals) G))) (K1:∀g,((∀{F h},J h->EG (rj P N rs id c) fix mod g F h (vals))/\T)->B->CF P N rs Q (Hb (rj P N rs id c) g)):CF P N rs Q c:=
 Hz (ι:=Unit) id fix mod (λx=>vals) (λx h=>J h) (λx h G hJ=>K2 h G E (H.1 h hJ)) (λg e=>K1 g ⟨fun {F h}=>e F h (),E⟩ H.2)
abbrev cy {A0:Type}(fix mod:List Nat) (vals:A0->List Value):Type:=Nat->A0->AH->Prop
theorem IB {A0:Type}{fix mod:List Nat}{vals:A0->List Value}{J:cy fix mod vals}{m0:Nat}{a0:A0}{R:Nat->A0->AH->Prop}{T:Prop}(E:T) (H:J m0 a0 h/\∀m x0 h,J m x0 h->R m x0 h) (K:∀m x0 h G g,((∀{F h x0},(∃m',m' < m/\J m' x0 h)->EG c fix mod g F h (vals x0))/\T)->R m x0 h->CF P N rs Q (Ep c g h (CX c fix mod (vals x0) G))) (hh:Di c=ω h:=by kernel_rfl) (hF:br mod (vt c)=eV (vals a0):=by kernel_rfl):CF P N rs Q c:=
 E0 (ι:=A0) fix mod (λx=>vals x) (λm x h=>J m x h) (x0:=a0) H.1 (λm x h G g e hJ=>K m x h G g ⟨fun {F h x0}=>e F h x0,E⟩ (H.2 m x h hJ)) hh hF
abbrev IC {A0:Type}(id:Nat) (fix mod:List Nat) (vals:A0->List Value):Type:=A0->AH->Prop
theorem ID {A0:Type}{id:Nat}{fix mod:List Nat}{vals:A0->List Value}{J:IC id fix mod vals}{R:A0->AH->Prop}{T B:Prop}(E:T) (H:(∀x0 h,J x0 h->R x0 h)/\B) (K2:∀x0 h G,T->R x0 h->CF P N rs Q (Hc (rj P N rs id c) h (CX (rj P N rs id c) fix mod (vals x0) G))) (K1:∀g,((∀{F h x0},J x0 h->EG (rj P N rs id c) fix mod g F h (vals x0))/\T)->B->CF P N rs Q (Hb (rj P N rs id c) g)):CF P N rs Q c:=
 Hz (ι:=A0) id fix mod (λx=>vals x) (λx h=>J x h) (λx h G hJ=>K2 x h G E (H.1 x h hJ)) (λg e=>K1 g ⟨fun {F h x0}=>e F h x0,E⟩ H.2)
abbrev tu {A0 A1:Type}(fix mod:List Nat) (vals:A0->A1->List Value):Type:=Nat->A0->A1->AH->Prop
theorem IE {A0 A1:Type}{fix mod:List Nat}{vals:A0->A1->List Value}{J:tu fix mod vals}{m0:Nat}{a0:A0}{a1:A1}{R:Nat->A0->A1->AH->Prop}{T:Prop}(E:T) (H:J m0 a0 a1 h/\∀m x0 x1 h,J m x0 x1 h->R m x0 x1 h) (K:∀m x0 x1 h G g,((∀{F h x0 x1},(∃m',m' < m/\J m' x0 x1 h)->EG c fix mod g F h (vals x0 x1))/\T)->R m x0 x1 h->CF P N rs Q (Ep c g h (CX c fix mod (vals x0 x1) G))) (hh:Di c=ω h:=by kernel_rfl) (hF:br mod (vt c)=eV (vals a0 a1):=by kernel_rfl):CF P N rs Q c:=
 E0 (ι:=A0×A1) fix mod (λx=>vals x.1 x.2) (λm x h=>J m x.1 x.2 h) (x0:=(a0,a1)) H.1 (λm x h G g e hJ=>K m x.1 x.2 h G g ⟨fun {F h x0 x1}=>e F h (x0,x1),E⟩ (H.2 m x.1 x.2 h hJ)) hh hF
abbrev IF {A0 A1:Type}(id:Nat) (fix mod:List Nat) (vals:A0->A1->List Value):Type:=A0->A1->AH->Prop
theorem IG {A0 A1:Type}{id:Nat}{fix mod:List Nat}{vals:A0->A1->List Value}{J:IF id fix mod vals}{R:A0->A1->AH->Prop}{T B:Prop}(E:T) (H:(∀x0 x1 h,J x0 x1 h->R x0 x1 h)/\B) (K2:∀x0 x1 h G,T->R x0 x1 h->CF P N rs Q (Hc (rj P N rs id c) h (CX (rj P N rs id c) fix mod (vals x0 x1) G))) (K1:∀g,((∀{F h x0 x1},J x0 x1 h->EG (rj P N rs id c) fix mod g F h (vals x0 x1))/\T)->B->CF P N rs Q (Hb (rj P N rs id c) g)):CF P N rs Q c:=
 Hz (ι:=A0×A1) id fix mod (λx=>vals x.1 x.2) (λx h=>J x.1 x.2 h) (λx h G hJ=>K2 x.1 x.2 h G E (H.1 x.1 x.2 h hJ)) (λg e=>K1 g ⟨fun {F h x0 x1}=>e F h (x0,x1),E⟩ H.2)
abbrev II {A0 A1 A2:Type}(fix mod:List Nat) (vals:A0->A1->A2->List Value):Type:=Nat->A0->A1->A2->AH->Prop
theorem IJ {A0 A1 A2:Type}{fix mod:List Nat}{vals:A0->A1->A2->List Value}{J:II fix mod vals}{m0:Nat}{a0:A0}{a1:A1}{a2:A2}{R:Nat->A0->A1->A2->AH->Prop}{T:Prop}(E:T) (H:J m0 a0 a1 a2 h/\∀m x0 x1 x2 h,J m x0 x1 x2 h->R m x0 x1 x2 h) (K:∀m x0 x1 x2 h G g,((∀{F h x0 x1 x2},(∃m',m' < m/\J m' x0 x1 x2 h)->EG c fix mod g F h (vals x0 x1 x2))/\T)->R m x0 x1 x2 h->CF P N rs Q (Ep c g h (CX c fix mod (vals x0 x1 x2) G))) (hh:Di c=ω h:=by kernel_rfl) (hF:br mod (vt c)=eV (vals a0 a1 a2):=by kernel_rfl):CF P N rs Q c:=
 E0 (ι:=A0×A1×A2) fix mod (λx=>vals x.1 x.2.1 x.2.2) (λm x h=>J m x.1 x.2.1 x.2.2 h) (x0:=(a0,a1,a2)) H.1 (λm x h G g e hJ=>K m x.1 x.2.1 x.2.2 h G g ⟨fun {F h x0 x1 x2}=>e F h (x0,x1,x2),E⟩ (H.2 m x.1 x.2.1 x.2.2 h hJ)) hh hF
abbrev xG {A0 A1 A2 A3:Type}(fix mod:List Nat) (vals:A0->A1->A2->A3->List Value):Type:=Nat->A0->A1->A2->A3->AH->Prop
theorem E1 {A0 A1 A2 A3:Type}{fix mod:List Nat}{vals:A0->A1->A2->A3->List Value}{J:xG fix mod vals}{m0:Nat}{a0:A0}{a1:A1}{a2:A2}{a3:A3}{R:Nat->A0->A1->A2->A3->AH->Prop}{T:Prop}(E:T) (H:J m0 a0 a1 a2 a3 h/\∀m x0 x1 x2 x3 h,J m x0 x1 x2 x3 h->R m x0 x1 x2 x3 h) (K:∀m x0 x1 x2 x3 h G g,((∀{F h x0 x1 x2 x3},(∃m',m' < m/\J m' x0 x1 x2 x3 h)->EG c fix mod g F h (vals x0 x1 x2 x3))/\T)->R m x0 x1 x2 x3 h->CF P N rs Q (Ep c g h (CX c fix mod (vals x0 x1 x2 x3) G))) (hh:Di c=ω h:=by kernel_rfl) (hF:br mod (vt c)=eV (vals a0 a1 a2 a3):=by kernel_rfl):CF P N rs Q c:=
 E0 (ι:=A0×A1×A2×A3) fix mod (λx=>vals x.1 x.2.1 x.2.2.1 x.2.2.2) (λm x h=>J m x.1 x.2.1 x.2.2.1 x.2.2.2 h) (x0:=(a0,a1,a2,a3)) H.1 (λm x h G g e hJ=>K m x.1 x.2.1 x.2.2.1 x.2.2.2 h G g ⟨fun {F h x0 x1 x2 x3}=>e F h (x0,x1,x2,x3),E⟩ (H.2 m x.1 x.2.1 x.2.2.1 x.2.2.2 h hJ)) hh hF
abbrev Id {A0 A1 A2 A3 A4:Type}(fix mod:List Nat) (vals:A0->A1->A2->A3->A4->List Value):Type:=Nat->A0->A1->A2->A3->A4->AH->Prop
theorem HB {A0 A1 A2 A3 A4:Type}{fix mod:List Nat}{vals:A0->A1->A2->A3->A4->List Value}{J:Id fix mod vals}{m0:Nat}{a0:A0}{a1:A1}{a2:A2}{a3:A3}{a4:A4}{R:Nat->A0->A1->A2->A3->A4->AH->Prop}{T:Prop}(E:T) (H:J m0 a0 a1 a2 a3 a4 h/\∀m x0 x1 x2 x3 x4 h,J m x0 x1 x2 x3 x4 h->R m x0 x1 x2 x3 x4 h) (K:∀m x0 x1 x2 x3 x4 h G g,((∀{F h x0 x1 x2 x3 x4},(∃m',m' < m/\J m' x0 x1 x2 x3 x4 h)->EG c fix mod g F h (vals x0 x1 x2 x3 x4))/\T)->R m x0 x1 x2 x3 x4 h->CF P N rs Q (Ep c g h (CX c fix mod (vals x0 x1 x2 x3 x4) G))) (hh:Di c=ω h:=by kernel_rfl) (hF:br mod (vt c)=eV (vals a0 a1 a2 a3 a4):=by kernel_rfl):CF P N rs Q c:=
 E0 (ι:=A0×A1×A2×A3×A4) fix mod (λx=>vals x.1 x.2.1 x.2.2.1 x.2.2.2.1 x.2.2.2.2) (λm x h=>J m x.1 x.2.1 x.2.2.1 x.2.2.2.1 x.2.2.2.2 h) (x0:=(a0,a1,a2,a3,a4)) H.1 (λm x h G g e hJ=>K m x.1 x.2.1 x.2.2.1 x.2.2.2.1 x.2.2.2.2 h G g ⟨fun {F h x0 x1 x2 x3 x4}=>e F h (x0,x1,x2,x3,x4),E⟩ (H.2 m x.1 x.2.1 x.2.2.1 x.2.2.2.1 x.2.2.2.2 h hJ)) hh hF
abbrev Ie {A0 A1 A2 A3 A4 A5 A6:Type}(fix mod:List Nat) (vals:A0->A1->A2->A3->A4->A5->A6->List Value):Type:=Nat->A0->A1->A2->A3->A4->A5->A6->AH->Prop
theorem IK {A0 A1 A2 A3 A4 A5 A6:Type}{fix mod:List Nat}{vals:A0->A1->A2->A3->A4->A5->A6->List Value}{J:Ie fix mod vals}{m0:Nat}{a0:A0}{a1:A1}{a2:A2}{a3:A3}{a4:A4}{a5:A5}{a6:A6}{R:Nat->A0->A1->A2->A3->A4->A5->A6->AH->Prop}{T:Prop}(E:T) (H:J m0 a0 a1 a2 a3 a4 a5 a6 h/\∀m x0 x1 x2 x3 x4 x5 x6 h,J m x0 x1 x2 x3 x4 x5 x6 h->R m x0 x1 x2 x3 x4 x5 x6 h) (K:∀m x0 x1 x2 x3 x4 x5 x6 h G g,((∀{F h x0 x1 x2 x3 x4 x5 x6},(∃m',m' < m/\J m' x0 x1 x2 x3 x4 x5 x6 h)->EG c fix mod g F h (vals x0 x1 x2 x3 x4 x5 x6))/\T)->R m x0 x1 x2 x3 x4 x5 x6 h->CF P N rs Q (Ep c g h (CX c fix mod (vals x0 x1 x2 x3 x4 x5 x6) G))) (hh:Di c=ω h:=by kernel_rfl) (hF:br mod (vt c)=eV (vals a0 a1 a2 a3 a4 a5 a6):=by kernel_rfl):CF P N rs Q c:=
 E0 (ι:=A0×A1×A2×A3×A4×A5×A6) fix mod (λx=>vals x.1 x.2.1 x.2.2.1 x.2.2.2.1 x.2.2.2.2.1 x.2.2.2.2.2.1 x.2.2.2.2.2.2) (λm x h=>J m x.1 x.2.1 x.2.2.1 x.2.2.2.1 x.2.2.2.2.1 x.2.2.2.2.2.1 x.2.2.2.2.2.2 h) (x0:=(a0,a1,a2,a3,a4,a5,a6)) H.1 (λm x h G g e hJ=>K m x.1 x.2.1 x.2.2.1 x.2.2.2.1 x.2.2.2.2.1 x.2.2.2.2.2.1 x.2.2.2.2.2.2 h G g ⟨fun {F h x0 x1 x2 x3 x4 x5 x6}=>e F h (x0,x1,x2,x3,x4,x5,x6),E⟩ (H.2 m x.1 x.2.1 x.2.2.1 x.2.2.2.1 x.2.2.2.2.1 x.2.2.2.2.2.1 x.2.2.2.2.2.2 h hJ)) hh hF
theorem wk (fn:Func) (N:Nat) (rs:List ResultVar){g:FuncId}{args:List Value}{C:Prop}(H:C) (hf:P.funcs[g]? = ω fn) (K:C->CF P N rs Q (.code (Ek fn) [] (aF args) h):=by
  clear H;intro H;have E:=True.intro
  repeat' first
   | with_reducible exact bq (fin H)
   | with_reducible exact False.elim H
   | with_reducible exact bq (rE (E.1 H (by kernel_rfl) (by kernel_rfl)))
   | with_reducible exact bq (rE (E.2.1 H (by kernel_rfl) (by kernel_rfl)))
   | with_reducible exact bq (rE (E.2.2.1 H (by kernel_rfl) (by kernel_rfl)))
   | with_reducible exact bq (rE (E.2.2.2.1 H (by kernel_rfl) (by kernel_rfl)))
   | with_reducible exact bq (rE (E.2.2.2.2.1 H (by kernel_rfl) (by kernel_rfl)))
   | with_reducible exact bq (rE (E.2.2.2.2.2.1 H (by kernel_rfl) (by kernel_rfl)))
   | with_reducible exact bq (rE (E.2.2.2.2.2.2.1 H (by kernel_rfl) (by kernel_rfl)))
   | (with_reducible refine Iu H ?_;clear H;intro _ H)
   | (with_reducible refine bq (Ip H ?_);clear H;intro H)
   | (with_reducible refine bq (Ir H ?_);clear H;intro H)
   | (with_reducible refine bq (Io H ?_);clear H;intro H)
   | (with_reducible refine bq (Iq H ?_);clear H;intro H)
   | (with_reducible refine bq (Is H ?_);clear H;intro H)
   | (with_reducible refine It H ?_;clear H;intro H)
   | (with_reducible refine HA H ?_;clear H;intro e H;cases e)
   | (with_reducible refine bq (wr H ?_);clear H;intro H)
   | (with_reducible refine bq (qo H ?_);clear H;intro H)
   | (with_reducible refine bq (lu H ?_);clear H;intro H)
   | (with_reducible refine bq (vx H ?_);clear H;intro H)
   | (with_reducible refine bq (mk H ?_);clear H;intro _ _ H)
   | (with_reducible refine bq (Ic H ?_);clear H;intro _ _ H)
   | (with_reducible refine bq (nw H ?_);clear H;intro _ _ H)
   | (with_reducible refine bq (ca H ?_);clear H;intro _ _ H)
   | (with_reducible refine bq (fc H ?_);clear H;intro _ _ H)
   | (with_reducible refine bq (ix H ?_);clear H;intro H)
   | (with_reducible refine Iw H ?_ ?_ <;>(clear H;intro e H;cases e))
   | (with_reducible refine Ix H ?_ ?_ <;>(clear H;intro e H;cases e))
   | (with_reducible refine Iy H ?_ ?_;(clear H;intro e H;cases e);rotate_left;(clear H;intro _ _ e H;cases e);rotate_left)
   | (with_reducible refine bq (ts H ?_ ?_) <;>(clear H;intro H))
   | (with_reducible refine Iv H ?_;clear H;intro e H;cases e)
   | (with_reducible refine bq (Iz E H ?_);clear E H;intro _ _ _ _ E H)
   | (with_reducible refine bq (IB E H ?_);clear E H;intro _ _ _ _ _ E H)
   | (with_reducible refine bq (IE E H ?_);clear E H;intro _ _ _ _ _ _ E H)
   | (with_reducible refine bq (IJ E H ?_);clear E H;intro _ _ _ _ _ _ _ E H)
   | (with_reducible refine bq (E1 E H ?_);clear E H;intro _ _ _ _ _ _ _ _ E H)
   | (with_reducible refine bq (HB E H ?_);clear E H;intro _ _ _ _ _ _ _ _ _ E H)
   | (with_reducible refine bq (IK E H ?_);clear E H;intro _ _ _ _ _ _ _ _ _ _ _ E H)
   | (with_reducible refine IA E H ?_ ?_;(clear E H;intro _ _ E H);rotate_left;(clear E H;intro _ E H);rotate_left)
   | (with_reducible refine ID E H ?_ ?_;(clear E H;intro _ _ _ E H);rotate_left;(clear E H;intro _ E H);rotate_left)
   | (with_reducible refine IG E H ?_ ?_;(clear E H;intro _ _ _ _ E H);rotate_left;(clear E H;intro _ E H);rotate_left))
  (ho:Eva.orc g args h=none:=by kernel_rfl) (hb:fn.body=ω (Ek fn):=by kernel_rfl) (hn:Nat.ble args.length fn.ntmps=true:=by kernel_rfl) (hN:fn.ntmps=N:=by kernel_rfl) (hrs:fn.results.toList=rs:=by kernel_rfl):WC P g args h Q:=by
 refine WC.enter ho hf hb (Nat.le_of_ble_eq_true hn) ((K H ⟨fn.ntmps,frame 0 args .nil⟩ ⟨hN,?_⟩).mono λe fr' h'=>?_)
 .funext k
  show(frame 0 args .nil).get k=_;rw[oL,if_pos (Nat.zero_le _),Nat.sub_zero,Tr.get_nil];cases aF args k <;>rfl
 .rintro⟨F',hs',q⟩;cases e with
  | exit i=>exact q.elim
  | normal=>
   obtain⟨vs,h1,h2⟩:=q;exact⟨vs,by rw[hrs];exact h1.ok hs',h2⟩
  | ret=>
   obtain⟨vs,h1,h2⟩:=q;exact⟨vs,by rw[hrs];exact h1.ok hs',h2⟩
end
end
end Eva
end
section
open Go Go.RowKit
namespace Eva
abbrev CL (g:FuncId) (args:List Value) (h:AH) (R:Value->AH->Prop):Prop:=WC Tryz.prog g args h R
abbrev CU (g:FuncId) (args:List Value) (h:AH) (R:AH->Prop):Prop:=CL g args h λv h2=>v = .tuple #[]/\R h2
abbrev CB (g:FuncId) (args:List Value) (h:AH) (R:Bool->AH->Prop):Prop:=CL g args h λv h2=>∃b,v = .bool b/\R b h2
abbrev CI (g:FuncId) (args:List Value) (h:AH) (R:Int->AH->Prop):Prop:=CL g args h λv h2=>∃x,v = .int .i64 x/\R x h2
abbrev CP (g:FuncId) (args:List Value) (h:AH) (R:Option Addr->AH->Prop):Prop:=CL g args h λv h2=>∃p,v = .pointer p/\R p h2
abbrev CS (g:FuncId) (args:List Value) (h:AH) (R:Option Addr->Nat->Nat->AH->Prop):Prop:=CL g args h λv h2=>∃A n K,v = η A n K/\R A n K h2
end Eva
end
end Go.Proofs.YtmbadhdpcdbdbaaGreatDoor
