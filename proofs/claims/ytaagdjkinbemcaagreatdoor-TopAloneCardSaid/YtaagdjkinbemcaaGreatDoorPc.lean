/-
Lemmas for TopAlone. No condition.
-/
import Derived.Test.YtaagdjkinbemcaaGreatDoorPb
import Derived.KernelRfl
import Derived.Test.YtaagdjkinbemcaaGreatDoorProg
namespace Go.Proofs.YtaagdjkinbemcaaGreatDoor
open _root_.Go.Value renaming pointer->ξ,slice->ψ
open _root_.Option renaming none->ω,some->Y
set_option linter.unusedVariables false
set_option linter.unusedSimpArgs false
set_option linter.unusedSectionVars false
set_option linter.unnecessarySimpa false
section
open Go Go.RowKit
namespace Eva
structure rH (N:Nat) (F:FF) (fr:Fr):Prop where
 n:fr.n=N
 get:fr.get=F
noncomputable section
def ldC (h:AH) (b o:Nat):Option Value:=
 match a8 h b with
 | some (c,_,_)=>c[o]?
 | none=>ω
def aB (h:AH) (b o n:Nat):Option (List Value):=
 match a8 h b with
 | some (c,_,_)=>pI c o n
 | none=>ω
def j0 (h:AH) (b o:Nat) (vs:List Value):Option AH:=bM h ⟨b,o,ω⟩ vs
def ac:Option (Nat×Value)->Value
 | none=>.nilIface
 | some (t,v)=>.iface t v
def GO (fn:Func):Code:=fn.body.getD .skip
def Ht (P:Program) (t:TypeId) (h:AH) (b o:Nat):Option Value:=iK P t (ξ (Y ⟨b,o,ω⟩)) h
def oI (P:Program) (t:TypeId):Option (Option Nat):=
 match P.underlying t,P.info? t with
 | some d,Y i=>Y (cond (iX d) (Y i.size) ω)
 | _,_=>ω
theorem IW {P:Program}{t:TypeId}{h:AH}{b o:Nat}{v:Value}(ht:oI P t=Y ω) (hl:ldC h b o=Y v):Ht P t h b o=Y v:=by
 unfold Ht iK ldC at *;simp only
 split at hl
 .rename_i c e f hc;rw[hc];simp only;unfold oI at ht;unfold gY
  split at ht
  .rename_i dd i h1 h2;simp only[h1,h2];unfold vC;cases ha:iX dd with
   | true=>rw[ha]at ht;cases ht
   | false=>exact hl
  .cases ht
 .cases hl
theorem IX {P:Program}{t:TypeId}{h:AH}{b o n:Nat}{c:List Value}(ht:oI P t=Y (Y n)) (hl:aB h b o n=Y c):Ht P t h b o=Y (.agg c.toArray):=by
 unfold Ht iK aB at *;simp only
 split at hl
 .rename_i c' e f hc;rw[hc];simp only;unfold oI at ht;unfold gY
  split at ht
  .rename_i dd i h1 h2;simp only[h1,h2];unfold vC;cases ha:iX dd with
   | false=>rw[ha]at ht;cases ht
   | true=>
    rw[ha]at ht;injection ht with ht;injection ht with ht;simp only[cond_true];rw[ht,hl];rfl
  .cases ht
 .cases hl
def V (P:Program) (N:Nat) (c:Code) (F:FF) (h:AH) (Q:mJ->FF->AH->Prop):Prop:=
 ∀fr,rH N F fr->W P c fr h (λe fr' h'=>∃F',rH N F' fr'/\Q e F' h')
def VD (P:Program) (N:Nat) (ops:Array Oper) (l:List (Nat×List Nat)) (F:FF) (h:AH) (Q:FF->AH->Prop):Prop:=
 ∀fr,rH N F fr->WD P ops l fr h (λfr' h'=>∃F',rH N F' fr'/\Q F' h')
def AG (P:Program) (ops:Array Oper) (F:FF) (h:AH) (again:List Nat):Prop:=aV (ik P ops F h) again=true
def wa (F:FF):Option Tmp->Value->FF
 | some d,v=>F.put d v
 | none,_=>F
inductive uv (P:Program) (F:FF) (h:AH):List ResultVar->List Value->Prop
 | nil:uv P F h [] []
 | tmp {t:Nat}{v:Value}{l:List ResultVar}{vs:List Value}:F t=Y v->uv P F h l vs->uv P F h (.tmp t :: l) (v :: vs)
 | cell {a t b o:Nat}{v:Value}{l:List ResultVar}{vs:List Value}:F a=Y (ξ (Y ⟨b,o,ω⟩))->Ht P t h b o=Y v->uv P F h l vs->uv P F h (.cell a t :: l) (v :: vs)
theorem uv.ok {P:Program}{N:Nat}{F:FF}{h:AH}{fr:Fr}(hs:rH N F fr){l:List ResultVar}{vs:List Value}(hr:uv P F h l vs):iZ P fr h l=Y vs:=by
 induction hr with
 | nil=>rfl
 | @tmp t v l vs hF _ ih=>
  show(iZ P fr h l).map (cv (fr.get t) :: ·)=_;rw[ih,hs.get,hF];rfl
 | @cell a t b o v l vs hF hl _ ih=>
  show Fq P t h (cv (fr.get a)) (iZ P fr h l)=_;rw[ih,hs.get,hF];unfold Fq;have:iK P t (cv (Y (ξ (Y ⟨b,o,ω⟩)))) h=Y v:=hl;rw[this]
inductive SF where
 | next (c:Code)
 | blk (id:Nat)
 | rnd (g:FF->AH->Prop)
inductive ce where
 | code (c:Code) (k:List SF) (F:FF) (h:AH)
 | ops (o:Array Oper) (l:List (Nat×List Nat)) (k:List SF) (F:FF) (h:AH)
 | chk (o:Array Oper) (a:List Nat) (l:List (Nat×List Nat)) (k:List SF) (F:FF) (h:AH)
 | out (e:mJ) (k:List SF) (F:FF) (h:AH)
 | res (l:List ResultVar) (acc:List Value) (F:FF) (h:AH)
 | bad
section
variable (P:Program) (N:Nat) (rs:List ResultVar) (Q:Value->AH->Prop)
def LW (n s:FF->AH->Prop):mJ->FF->AH->Prop
 | .normal=>n
 | _=>s
def yn:List SF->mJ->FF->AH->Prop
 | [],.exit _,_,_=>False
 | [],_,F,h=>∃vs,uv P F h rs vs/\Q (one vs) h
 | .next b :: k,.normal,F,h=>V P N b F h (yn k)
 | .next _ :: k,e,F,h=>yn k e F h
 | .blk id :: k,.exit i,F,h=>cond (Nat.beq i id) (yn k .normal F h) (yn k (.exit i) F h)
 | .blk _ :: k,e,F,h=>yn k e F h
 | .rnd g :: _,.normal,F,h=>g F h
 | .rnd _ :: k,e,F,h=>yn k e F h
def CF:ce->Prop
 | .code c k F h=>V P N c F h (yn P N rs Q k)
 | .ops o l k F h=>VD P N o l F h (λF h=>yn P N rs Q k .normal F h)
 | .chk o a l k F h=>AG P o F h a/\VD P N o l F h (λF h=>yn P N rs Q k .normal F h)
 | .out e k F h=>yn P N rs Q k e F h
 | .res l acc F h=>∃vs,uv P F h l vs/\Q (one (acc ++ vs)) h
 | .bad=>False
def Dq (a b:ce):Value->Option ce
 | .bool true=>Y a
 | .bool false=>Y b
 | _=>ω
def GP (ops:Array Oper) (k:List SF) (F:FF) (h:AH):Option (List (Nat×List Nat))->Option ce
 | some l=>Y (.ops ops l k F h)
 | none=>ω
def KA (k:List SF) (F:FF) (h:AH) (ops:Array Oper):Bool->Option ce
 | true=>GP ops k F h (eK P ops)
 | false=>Y (.ops ops ((List.range ops.size).map λj=>(j,[])) k F h)
def GQ (k:List SF) (F:FF) (h:AH):Code->Option ce
 | .seq a b=>Y (.code a (.next b :: k) F h)
 | .block id b=>Y (.code b (.blk id :: k) F h)
 | .scope b=>Y (.code b k F h)
 | .skip=>Y (.out .normal k F h)
 | .label _=>Y (.out .normal k F h)
 | .exit id=>Y (.out (.exit id) k F h)
 | .ret=>Y (.out .ret k F h)
 | .region _ ops d=>KA P k F h ops d
 | .cond x a b=>cond (eU x) (Dq (.code a k F h) (.code b k F h) (bG F x)) ω
 | _=>ω
def IY (F:FF) (h:AH) (e:mJ):List SF->Option ce
 | []=>match e with
  | .exit _=>ω
  | _=>Y (.res rs [] F h)
 | .next b :: k=>match e with
  | .normal=>Y (.code b k F h)
  | e=>Y (.out e k F h)
 | .blk id :: k=>match e with
  | .exit i=>Y (cond (Nat.beq i id) (.out .normal k F h) (.out (.exit i) k F h))
  | e=>Y (.out e k F h)
 | .rnd _ :: k=>match e with
  | .normal=>ω
  | e=>Y (.out e k F h)
def Dr:Value->Bool
 | .int _ _=>false
 | .string _=>false
 | _=>true
def Hu:Option Value->Bool
 | some (.map _)=>false
 | _=>true
def quiet (F:FF) (o:Oper):Bool:=
 match o.op with
 | .move _ | .pick _ _ _ | .nilCheck _ | .fieldAddr _ _ _ | .field _ _ _ | .extract _ _ | .makeFunc _ _ _ | .makeInterface _ _ | .build _ _=>true
 | .binOp _ _ x _ _=>Dr (bG F x)
 | .unOp _ _ x=>Dr (bG F x)
 | .call c=>match c.callee with
  | .builtin .len=>Hu (zI c F)
  | _=>false
 | _=>false
def GR:Option Tmp->Bool
 | some d=>Nat.blt d N
 | none=>true
def E0 (ops:Array Oper) (F:FF) (o:Oper):Bool:=cond (iL ops F o) (bT o) false
def IZ (ops:Array Oper) (a:List Nat) (l:List (Nat×List Nat)) (k:List SF) (F:FF) (h:AH) (d:Option Tmp):Option Value->Option ce
 | some v=>cond (GR N d) (Y (.chk ops a l k (wa F d v) h)) ω
 | none=>ω
def Kc (ops:Array Oper) (a:List Nat) (l:List (Nat×List Nat)) (k:List SF) (F:FF) (h:AH) (o:Oper):Option ce:=
 cond (iL ops F o)
  (cond (bT o)
   (match o.op with
   | .assign x=>cond (GR N o.dst) (Y (.ops ops l k (wa F o.dst (bG F x)) h)) ω
   | _=>cond (quiet F o) (IZ N ops a l k F h o.dst (jP P o F h)) ω) ω)
  (cond (GR N o.dst) (Y (.ops ops l k (wa F o.dst undef) h)) ω)
def Hv (ops:Array Oper) (a:List Nat) (l:List (Nat×List Nat)) (k:List SF) (F:FF) (h:AH):Option Oper->Option ce
 | some o=>cond (looks P o.op && iL ops F o) ω (Y (.chk ops a l k F h))
 | none=>ω
def Hw (l:List ResultVar) (acc:List Value) (F:FF) (h:AH):Option Value->Option ce
 | some v=>Y (.res l (acc ++ [v]) F h)
 | none=>ω
def sN:ce->Option ce
 | .code c k F h=>GQ P k F h c
 | .ops _ [] k F h=>Y (.out .normal k F h)
 | .ops ops ((j,a) :: l) k F h=>match ops[j]? with
  | some o=>Kc P N ops a l k F h o
  | none=>ω
 | .chk ops [] l k F h=>Y (.ops ops l k F h)
 | .chk ops (i :: a) l k F h=>Hv P ops a l k F h ops[i]?
 | .out e k F h=>IY rs F h e k
 | .res (.tmp t :: l) acc F h=>Hw l acc F h (F t)
 | _=>ω
def yp (c:ce) (ih:ce->ce):Option ce->ce
 | some c'=>ih c'
 | none=>c
def Hx (n:Nat):ce->ce:=Nat.rec (motive:=λ_=>ce->ce) (λc=>c) (λ_ ih c=>yp c ih (sN P N rs c)) n
def rn (c:ce):ce:=Hx P N rs 1000 c
def FA (c:ce) (v:Value) (h':AH):ce:=
 match c with
 | .ops ops ((j,a) :: l) k F _=>match ops[j]? with
  | some o=>cond (GR N o.dst) (.chk ops a l k (wa F o.dst v) h') .bad
  | none=>.bad
 | .chk ops (_ :: a) l k F h=>.chk ops a l k F h
 | .res (_ :: l) acc F h=>.res l (acc ++ [v]) F h
 | _=>.bad
def fG:ce->Option (Array Oper×Oper×FF×AH)
 | .ops ops ((j,_) :: _) _ F h=>match ops[j]? with
  | some o=>cond (E0 ops F o) (Y (ops,o,F,h)) ω
  | none=>ω
 | _=>ω
def Kd:ce->AH
 | .code _ _ _ h | .ops _ _ _ _ h | .chk _ _ _ _ _ h | .out _ _ _ h | .res _ _ _ h=>h
 | .bad=>⟨0,.nil⟩
def xR:ce->FF
 | .code _ _ F _ | .ops _ _ _ F _ | .chk _ _ _ _ F _ | .out _ _ F _ | .res _ _ F _=>F
 | .bad=>λ_=>ω
def Bt (c:ce) (v:Value):ce:=FA N c v (Kd c)
end
section
variable {P:Program}{N:Nat}{rs:List ResultVar}{Q:Value->AH->Prop}{ops:Array Oper}{F:FF}{h:AH}{l:List (Nat×List Nat)}{j:Nat}{a:List Nat}
theorem rH.put {fr:Fr}(hs:rH N F fr){d:Option Tmp}(hd:GR N d=true) (v:Value):rH N (wa F d v) (dF fr d v):=by
 cases d with
 | none=>exact hs
 | some d=>
  have hlt:d<fr.n:=by
   rw[hs.n,<-Nat.blt_eq];exact hd
  refine⟨by rw[qa];exact hs.n,?_⟩
  funext k
  show(fr.put d v).get k=cond (Nat.beq k d) (Y v) (F k);by_cases e:k=d
  .subst e;rw[ie hlt,Nat.beq_refl];rfl
  .have hb:Nat.beq k d=false:=by
    cases hb:Nat.beq k d with
    | false=>rfl
    | true=>exact absurd (aq hb) e
   rw[p9 e,hb];exact congrFun hs.get k
theorem gD {o:Oper}(hg:E0 ops F o=true):iL ops F o=true/\bT o=true:=by
 unfold E0 at hg;cases hw:iL ops F o with
 | false=>rw[hw]at hg;cases hg
 | true=>rw[hw]at hg;exact⟨rfl,hg⟩
theorem VD.step {K:FF->AH->Prop}{o:Oper}{v:Value}{h':AH}(ho:ops[j]? = Y o) (hd:GR N o.dst=true) (hop:∀fr:Fr,fr.get=F->W1 P ops o fr h (λfr' h2=>fr' = dF fr o.dst v/\h2=h')) (ag:(iL ops F o && !(jZ o.op))=true->AG P ops (wa F o.dst v) h' a)
  (hK:VD P N ops l (wa F o.dst v) h' K):VD P N ops ((j,a) :: l) F h K:=by
 intro fr hs;obtain⟨n,fr',h2,ha,rfl,rfl⟩:=hop fr hs.get;refine WD.op ho ⟨n,_,_,ha,?_,hK _ (hs.put hd v)⟩;have hsee:=hs.put hd v;unfold zB;rw[nh,hs.get];cases hz:(iL ops F o && !(jZ o.op)) with
 | false=>rfl
 | true=>
  have ag:=ag hz;unfold AG at ag;rw[<-hsee.get]at ag;exact ag
theorem Ds {o:Oper}{v:Value}(hk:aI P o = .val) (hg:E0 ops F o=true) (hv:jP P o F h=Y v):∀fr:Fr,fr.get=F->W1 P ops o fr h (λfr' h2=>fr' = dF fr o.dst v/\h2=h):=λfr hfr=>by
 obtain⟨hw,hc⟩:=gD hg;refine W1.wanted (by rw[nh,hfr];exact hw) (W1.val rfl hc hk ?_ ⟨rfl,rfl⟩);show rp P o fr h=_;rw[IU,hfr];exact hv
theorem Dt {o:Oper}{ao:AO}{f:Nat->Value}(hk:aI P o = .lay) (hg:E0 ops F o=true) (hv:Fz P o F=Y (ao,f)):∀fr:Fr,fr.get=F->W1 P ops o fr h (λfr' h2=>fr' = dF fr o.dst (f h.next)/\h2=h.new ao):=λfr hfr=>by
 obtain⟨hw,hc⟩:=gD hg;refine W1.wanted (by rw[nh,hfr];exact hw) (W1.lay (b:=ao) (f:=f) rfl hc hk ?_ ⟨rfl,rfl⟩);show AU P o fr=_;rw[IV,hfr];exact hv
theorem uw {o:Oper}{v:Value}{h':AH}(hk:aI P o = .loud) (hg:E0 ops F o=true) (hv:Br P o F h=Y (v,h')):∀fr:Fr,fr.get=F->W1 P ops o fr h (λfr' h2=>fr' = dF fr o.dst v/\h2=h'):=λfr hfr=>by
 obtain⟨hw,hc⟩:=gD hg;refine W1.wanted (by rw[nh,hfr];exact hw) (W1.loud rfl hc hk ?_ ⟨rfl,rfl⟩);show vE P o fr h=_;rw[GN,hfr];exact hv
theorem I0 {o:Oper}(hw:iL ops F o=false):∀fr:Fr,fr.get=F->W1 P ops o fr h (λfr' h2=>fr' = dF fr o.dst undef/\h2=h):=λfr hfr=>
 W1.unwanted (by rw[nh,hfr];exact hw) ⟨rfl,rfl⟩
theorem AG.cons {i:Nat}(h1:ik P ops F h i=true) (h2:AG P ops F h a):AG P ops F h (i :: a):=by
 unfold AG aV at *;simp only[h1,cond_true];exact h2
theorem WD.of_list {ops:Array Oper}{Q:Fr->AH->Prop}:∀(m i:Nat){fr:Fr}{h:AH},i+m=ops.size->WD P ops ((List.range' i m).map λj=>(j,[])) fr h Q->WO P ops (ops.toList.drop i) fr h Q
 | 0,i,fr,h,hi,hw=>by
  obtain⟨n,fr',h',ha,q⟩:=hw;have hd:ops.toList.drop i = []:=List.drop_eq_nil_of_le (by simp;omega);rw[hd];cases ha;exact WO.nil q
 | m+1,i,fr,h,hi,hw=>by
  obtain⟨n,fr',h',ha,q⟩:=hw;have hlt:i<ops.size:=U;have hd:ops.toList.drop i=ops[i] :: ops.toList.drop (i+1):=by
   rw[List.drop_eq_getElem_cons (by simpa using hlt)];simp
  have hg:ops[i]? = Y ops[i]:=Array.getElem?_eq_getElem hlt;rw[hd];have ha':cw P (aR P (aK P n)) ops i [] (drawn P (aR P (aK P n)) ops ((List.range' (i+1) m).map λj=>(j,[]))) fr h=Y (fr',h'):=ha;unfold cw at ha';rw[hg]at ha';simp only at ha';cases h1:iW P (aR P (aK P n)) ops ops[i] fr h with
  | none=>rw[h1]at ha';cases ha'
  | some fh=>
   obtain⟨fr1,hh1⟩:=fh;rw[h1,zF]at ha';have ha2:drawn P (aR P (aK P n)) ops ((List.range' (i+1) m).map λj=>(j,[])) fr1 hh1=Y (fr',h'):=ha';exact WO.cons ⟨n,fr1,hh1,h1,WD.of_list m (i+1) U ⟨n,fr',h',ha2,q⟩⟩
theorem Du {c:Code}{c':ce}{k:List SF}(hs:GQ P k F h c=Y c') (K:CF P N rs Q c'):CF P N rs Q (.code c k F h):=by
 cases c with
 | seq a b=>
  cases hs;intro fr hs;refine W.seq ((K fr hs).mono λe fr' h'=>?_);rintro⟨F',hs',q⟩;cases e with
  | normal=>exact q fr' hs'
  | exit i=>exact⟨F',hs',q⟩
  | ret=>exact⟨F',hs',q⟩
 | block i b=>
  cases hs;intro fr hs;refine W.block ((K fr hs).mono λe fr' h'=>?_);rintro⟨F',hs',q⟩;cases e with
  | normal=>exact⟨F',hs',q⟩
  | exit j=>
   have q':cond (Nat.beq j i) (yn P N rs Q k .normal F' h') (yn P N rs Q k (.exit j) F' h'):=q;by_cases e:j=i
   .subst e;rw[Nat.beq_refl]at q';simp only[qg,if_pos rfl];exact⟨F',hs',q'⟩
   .have hb:Nat.beq j i=false:=by
     cases hb:Nat.beq j i with
     | false=>rfl
     | true=>exact absurd (aq hb) e
    rw[hb]at q';simp only[qg,if_neg e];exact⟨F',hs',q'⟩
  | ret=>exact⟨F',hs',q⟩
 | scope b=>cases hs;exact λfr hs=>W.scope (K fr hs)
 | skip=>cases hs;exact λfr hs=>W.skip ⟨F,hs,K⟩
 | label l=>cases hs;exact λfr hs=>W.label ⟨F,hs,K⟩
 | exit i=>cases hs;exact λfr hs=>W.exit ⟨F,hs,K⟩
 | ret=>cases hs;exact λfr hs=>W.ret ⟨F,hs,K⟩
 | region i ops dr=>
  cases dr with
  | true=>
   have hs':GP ops k F h (eK P ops)=Y c':=hs;cases hp:eK P ops with
   | none=>rw[hp]at hs';cases hs'
   | some l=>
    rw[hp]at hs';cases hs';exact λfr hs=>W.regionD hp (K fr hs)
  | false=>
   cases hs;intro fr hs;refine W.region ?_;have h1:WD P ops ((List.range ops.size).map λj=>(j,[])) fr h (λfr' h'=>∃F',rH N F' fr'/\yn P N rs Q k .normal F' h'):=K fr hs;rw[List.range_eq_range']at h1;have h2:=WD.of_list (P:=P) ops.size 0 (Nat.zero_add _) h1
   rwa [List.drop_zero]at h2
 | cond x a b=>
  intro fr hf;have hs':cond (eU x) (Dq (.code a k F h) (.code b k F h) (bG F x)) ω=Y c':=hs;obtain⟨hx,hs'⟩:=af hs';have he:ev fr x=bG F x:=by rw[Kz,hf.get]
  unfold Dq at hs'
  split at hs'
  .rename_i ht;cases hs';exact W.cond hx (he.trans ht) (λ_=>K fr hf) (λh=>by cases h)
  .rename_i ht;cases hs';exact W.cond hx (he.trans ht) (λh=>by cases h) (λ_=>K fr hf)
  .cases hs'
 | _=>cases hs
theorem FB {e:mJ}{c':ce}{k:List SF}(hs:IY rs F h e k=Y c') (K:CF P N rs Q c'):CF P N rs Q (.out e k F h):=by
 cases k with
 | nil=>cases e <;>cases hs <;>exact K
 | cons s k=>
  cases s with
  | next b=>cases e <;>cases hs <;>exact K
  | rnd g=>cases e <;>cases hs <;>exact K
  | blk id=>
   cases e with
   | exit i=>
    injection hs with hs;subst hs;show cond (Nat.beq i id) (yn P N rs Q k .normal F h) (yn P N rs Q k (.exit i) F h);cases hb:Nat.beq i id <;>rw[hb]at K <;>exact K
   | normal=>cases hs;exact K
   | ret=>cases hs;exact K
theorem Bu {o:Oper}(hq:quiet F o=true):aI P o = .val/\jZ o.op=false:=by
 unfold quiet at hq;unfold aI jZ
 split at hq <;>first | (rename_i ho;rw[ho];exact⟨rfl,rfl⟩) | skip
 .rename_i c ho;rw[ho];refine⟨?_,rfl⟩;simp only
  split at hq
  .rename_i hc;rw[hc]
  .cases hq
 .cases hq
theorem Hy {o:Oper}{c':ce}{k:List SF}(ho:ops[j]? = Y o) (hs:Kc P N ops a l k F h o=Y c') (K:CF P N rs Q c'):CF P N rs Q (.ops ops ((j,a) :: l) k F h):=by
 unfold Kc at hs;cases hw:iL ops F o with
 | false=>
  rw[hw]at hs;obtain⟨hd,hs⟩:=af hs;cases hs;exact VD.step ho hd (I0 hw) (λz=>by rw[hw]at z;cases z) K
 | true=>
  rw[hw]at hs;obtain⟨hc,hs⟩:=af hs;have hg:E0 ops F o=true:=by unfold E0;rw[hw];exact hc
  split at hs
  .rename_i x hop;obtain⟨hd,hs⟩:=af hs;cases hs;refine VD.step ho hd (uw (by unfold aI;rw[hop]) hg (by unfold Br;rw[hop])) (λz=>?_) K;rw[hop]at z;simp[jZ]at z
  .obtain⟨hq,hs⟩:=af hs;unfold IZ at hs
   split at hs
   .rename_i v hv;obtain⟨hd,hs⟩:=af hs;cases hs;exact VD.step ho hd (Ds (Bu hq).1 hg hv) (λ_=>K.1) K.2
   .cases hs
theorem wd {c c':ce}(hs:sN P N rs c=Y c') (K:CF P N rs Q c'):CF P N rs Q c:=by
 cases c with
 | code c k F h=>exact Du hs K
 | ops ops l k F h=>
  cases l with
  | nil=>cases hs;exact λfr hs=>WD.nil ⟨F,hs,K⟩
  | cons p l=>
   obtain⟨j,a⟩:=p;have hs':(match ops[j]? with | some o=>Kc P N ops a l k F h o | none=>ω)=Y c':=hs
   split at hs'
   .rename_i o ho;exact Hy ho hs' K
   .cases hs'
 | chk ops a l k F h=>
  cases a with
  | nil=>cases hs;exact⟨rfl,K⟩
  | cons i a=>
   have hs':Hv P ops a l k F h ops[i]? = Y c':=hs;unfold Hv at hs'
   split at hs'
   .rename_i o ho;cases hz:(looks P o.op && iL ops F o) with
    | true=>rw[hz]at hs';cases hs'
    | false=>
     rw[hz]at hs';cases hs';refine⟨AG.cons ?_ K.1,K.2⟩;unfold ik;rw[ho];simp only;cases hl:looks P o.op with
     | false=>rfl
     | true=>rw[hl]at hz;simp only[Bool.true_and]at hz;rw[hz];rfl
   .cases hs'
 | out e k F h=>exact FB hs K
 | res l acc F h=>
  cases l with
  | nil=>cases hs
  | cons r l=>
   cases r with
   | cell a t=>cases hs
   | tmp t=>
    have hs':Hw l acc F h (F t)=Y c':=hs;unfold Hw at hs'
    split at hs'
    .rename_i v hv;cases hs';obtain⟨vs,k1,k2⟩:=K;exact⟨v :: vs,.tmp hv k1,by rw[List.append_assoc]at k2;exact k2⟩
    .cases hs'
 | bad=>cases hs
theorem zL:∀(n:Nat) (c:ce),CF P N rs Q (Hx P N rs n c)->CF P N rs Q c
 | 0,c,K=>K
 | n+1,c,K=>by
  have K':CF P N rs Q (yp c (Hx P N rs n) (sN P N rs c)):=K;unfold yp at K'
  split at K'
  .rename_i c' hs;exact wd hs (zL n c' K')
  .exact K'
theorem bu {c:ce}(K:CF P N rs Q (rn P N rs c)):CF P N rs Q c:=zL _ _ K
theorem sO {c:ce}{o:Oper}{v:Value}{h':AH}(hc:fG c=Y (ops,o,F,h)) (hop:∀fr:Fr,fr.get=F->W1 P ops o fr h (λfr' h2=>fr' = dF fr o.dst v/\h2=h')) (K:CF P N rs Q (FA N c v h')):CF P N rs Q c:=by
 unfold fG at hc
 split at hc
 .rename_i ops' j a l k F' h0
  split at hc
  .rename_i o' ho;obtain⟨hg,hc⟩:=af hc;injection hc with hc;injection hc with e1 hc;injection hc with e2 hc;injection hc with e3 e4;subst e1 e2 e3 e4;have K':CF P N rs Q (match ops'[j]? with | some o=>cond (GR N o.dst) (.chk ops' a l k (wa F' o.dst v) h') .bad | none=>.bad):=K;rw[ho]at K';simp only at K';cases hd:GR N o'.dst with
   | false=>rw[hd]at K';exact K'.elim
   | true=>
    rw[hd]at K';exact VD.step ho hd hop (λ_=>K'.1) K'.2
  .cases hc
 .cases hc
end
end
end Eva
end
section
open Go Go.RowKit
namespace Eva
def I1 (ih:Value->Prop):Value->Prop
 | .bool _ | .int _ _ | .string _ | ξ ω | .map _ | .nilFunc | .nilIface=>True
 | ξ (Y a)=>a.spot=ω
 | ψ ω _ _=>True
 | .slice (Y a) _ _=>a.spot=a.spot
 | .iface _ v=>ih v
 | .agg cs | .tuple cs=>∀v∈cs.toList,ih v
 | .func (.func _) f c=>(∀v∈f.toList,ih v)/\∀v∈c.toList,ih v
 | _=>False
def lJ:Nat->Value->Prop
 | 0,_=>False
 | n+1,v=>I1 (lJ n) v
abbrev bO (v:Value):Prop:=lJ 6 v
theorem gE {ih:Value->Value->Bool}:∀l:List Value,(∀v∈l,ih v v=true)->ry ih l l=true
 | [],_=>rfl
 | x :: l,h=>by
  unfold ry;rw[h x (by simp)];exact gE l λv hv=>h v (List.mem_cons_of_mem _ hv)
theorem oJ (a:Addr):mN a a=true:=by
 unfold mN;rw[Nat.beq_refl,Nat.beq_refl];cases a.spot with
 | none=>rfl
 | some i=>exact Nat.beq_refl i
theorem gF:∀(n:Nat){v:Value},lJ n v->EY n v v=true
 | 0,v,h=>h.elim
 | n+1,v,h=>by
  show oU (EY n) v v=true;cases v with
  | bool b=>simp[oU]
  | int k x=>simp[oU]
  | string s=>simp[oU]
  | pointer p=>
   cases p with
   | none=>rfl
   | some a=>exact oJ a
  | slice a l c=>
   cases a with
   | none=>simp[oU,Nat.beq_refl]
   | some a=>simp[oU,Nat.beq_refl];exact oJ a
  | map r=>cases r <;>simp[oU,Nat.beq_refl]
  | nilFunc=>rfl
  | nilIface=>rfl
  | iface t u=>simp only[oU,Nat.beq_refl,Bool.true_and];exact gF n h
  | agg cs=>exact gE _ λu hu=>gF n (h u hu)
  | tuple cs=>exact gE _ λu hu=>gF n (h u hu)
  | func g f c=>
   cases g with
   | func g=>
    simp only[oU,Nat.beq_refl,Bool.true_and];rw[gE _ λu hu=>gF n (h.1 u hu),gE _ λu hu=>gF n (h.2 u hu)];rfl
   | _=>exact h.elim
  | _=>exact h.elim
noncomputable section
def KD:Value->Bool
 | .bool _ | .int _ _ | .string _ | ξ ω | .map _ | .nilFunc | .nilIface=>true
 | ξ (Y ⟨_,_,ω⟩)=>true
 | ψ ω _ _=>true
 | .slice (Y _) _ _=>true
 | _=>false
theorem Hz {v:Value}(h:KD v=true):bO v:=by
 unfold KD at h
 split at h <;>first | exact trivial | exact rfl | cases h
def Ke (P:Program) (h:AH) (t:TypeId):Value->Option (AH×Nat×Nat×Option Nat)
 | ξ (Y ⟨b,o,ω⟩)=>match oI P t with
  | some f=>Y (h,b,o,f)
  | none=>ω
 | _=>ω
def Kf (P:Program) (F:FF) (h:AH):Op->Option (AH×Nat×Nat×Option Nat)
 | .load t x=>Ke P h t (bG F x)
 | _=>ω
def IB (P:Program):ce->Option (AH×Nat×Nat×Option Nat)
 | .chk ops (i :: _) _ _ F h=>match ops[i]? with
  | some o=>cond (E0 ops F o) (Kf P F h o.op) ω
  | none=>ω
 | .res (.cell a t :: _) _ F h=>match F a with
  | some v=>Ke P h t v
  | none=>ω
 | c=>match fG c with
  | some (_,o,F,h)=>Kf P F h o.op
  | none=>ω
def Dv (v:Value):ce->Option Value
 | .chk ops (i :: _) _ _ F _=>match ops[i]? with
  | some o=>match o.dst with
   | some d=>F d
   | none=>ω
  | none=>ω
 | _=>Y v
def KE (v:Value):ce->Bool
 | .chk _ _ _ _ _ _=>KD v
 | _=>true
def Lu (P:Program) (c:ce):Option (AH×Nat×Nat×List Value):=
 match fG c with
 | some (_,o,F,h)=>match o.op,o.dst with
  | .store t x v,ω=>match P.info? t,bG F x with
   | some i,ξ (Y ⟨b,k,ω⟩)=>cond (Nat.beq (bG F v).cells.toList.length i.size) (Y (h,b,k,(bG F v).cells.toList)) ω
   | _,_=>ω
  | _,_=>ω
 | none=>ω
def Lv (P:Program) (c:ce):Option (Option VH):=
 match fG c with
 | some (_,o,F,h)=>match aI P o with
  | .loud=>Y (Br P o F h)
  | _=>ω
 | none=>ω
def I3 (P:Program) (c:ce):Option (Option Value):=
 match fG c with
 | some (_,o,F,h)=>match aI P o with
  | .val=>Y (jP P o F h)
  | _=>ω
 | none=>ω
def FC:Option (Option Value)->Option (IntKind×Int)
 | some (Y (.int k t))=>Y (k,t)
 | _=>ω
def Lw (P:Program) (c:ce):Option Int:=
 match FC (I3 P c) with
 | some (_,t)=>Y t
 | none=>ω
def KF (P:Program) (c:ce):IntKind:=
 match FC (I3 P c) with
 | some (k,_)=>k
 | none=>.i64
def GS:Op->Option (Bool×Operand×Operand)
 | .binOp .quo _ x y _=>Y (false,x,y)
 | .binOp .rem _ x y _=>Y (true,x,y)
 | _=>ω
def Lx (rem:Bool) (a b:Value):Option (IntKind×Int×Int):=
 match a,b with
 | .int k a,.int l b=>cond (k == l) (Y (k,b,cond rem (Int.tmod a b) (k.wrap (Int.tdiv a b)))) ω
 | _,_=>ω
def Kg (c:ce):Option (IntKind×Int×Int):=
 match fG c with
 | some (_,o,F,_)=>match GS o.op with
  | some (r,x,y)=>Lx r (bG F x) (bG F y)
  | none=>ω
 | none=>ω
def Ly (c:ce):Option (Int×Int):=
 match Kg c with
 | some (_,b,t)=>Y (b,t)
 | none=>ω
def KG (c:ce):IntKind:=
 match Kg c with
 | some (k,_)=>k
 | none=>.i64
def I4 (op:BinOp) (a b:Int):Option Bool:=
 match op with
 | .lss=>Y (decide (a<b))
 | .leq=>Y (decide (a<=b))
 | .gtr=>Y (decide (b<a))
 | .geq=>Y (decide (b<=a))
 | .eql=>Y (a == b)
 | .neq=>Y (a == b)
 | _=>ω
def I5 (op:BinOp) (q:Bool):Option Bool:=
 match op with
 | .eql=>Y q
 | .neq=>Y q
 | _=>ω
def I6 (op:BinOp) (x y:Value):Option Bool:=
 match x,y with
 | .int k a,.int l b=>cond (k == l) (I4 op a b) ω
 | .string a,.string b=>I5 op (decide (a.toList=b.toList))
 | _,_=>ω
def zM:BinOp->Bool
 | .neq=>true
 | _=>false
def KH (c:ce):Option Bool:=
 match fG c with
 | some (_,o,F,_)=>match o.op with
  | .binOp op _ x y _=>I6 op (bG F x) (bG F y)
  | _=>ω
 | none=>ω
def Ja (c:ce):Bool:=
 match fG c with
 | some (_,o,_,_)=>match o.op with
  | .binOp op _ _ _ _=>zM op
  | _=>false
 | none=>false
def Lz (P:Program) (d:Option TypeDesc) (x:Value) (i:Option Nat):Option (Nat×Nat×Nat×Nat×Nat):=
 match d,x,i with
 | some (.slice e),ψ (Y ⟨b,o,ω⟩) n _,Y k=>match P.info? e with
  | some i=>Y (b,o,n,k,i.size)
  | none=>ω
 | some (.array n e),ξ (Y ⟨b,o,ω⟩),Y k=>match P.info? e with
  | some i=>Y (b,o,n,k,i.size)
  | none=>ω
 | _,_,_=>ω
def Kh (P:Program) (c:ce):Option (Nat×Nat×Nat×Nat×Nat):=
 match fG c with
 | some (_,o,F,_)=>match o.op with
  | .indexAddr t x ix=>Lz P (P.underlying t) (bG F x) (bW (bG F ix))
  | _=>ω
 | none=>ω
def LC (P:Program) (c:ce):Option (Nat×Nat):=
 match Kh P c with
 | some (_,_,n,k,_)=>Y (n,k)
 | none=>ω
def KI (P:Program) (c:ce):Value:=
 match Kh P c with
 | some (b,o,_,k,s)=>ξ (Y ⟨b,cond (Nat.beq s 1) (o+k) (o+k*s),ω⟩)
 | none=>undef
def KJ (P:Program) (c:ce):Option (AH×AT):=
 match fG c with
 | some (_,o,F,h)=>match aI P o with
  | .lay=>match Fz P o F with
   | some b=>Y (h,b)
   | none=>ω
  | _=>ω
 | none=>ω
def LD (P:Program) (c:ce):Option (AH×AO):=
 match KJ P c with
 | some (h,b,_)=>Y (h,b)
 | none=>ω
def KM (P:Program) (c:ce):Value:=
 match KJ P c with
 | some (h,_,f)=>f h.next
 | none=>undef
def zN (e:TypeId):Option TypeInfo->Option (List Value)
 | some i=>match i.zero with
  | some z=>cond (Nat.blt i.bytes 10000 && ff z i.size) (Y z.cells.toList) ω
  | none=>ω
 | none=>ω
def KN (P:Program) (c:ce):Option (AH×TypeId×List Value×Option Nat×Option Nat):=
 match fG c with
 | some (_,o,F,h)=>match o.op with
  | .makeSlice t l c=>match P.underlying t with
   | some (.slice e)=>match zN e (P.info? e) with
    | some zl=>Y (h,e,zl,bW (bG F l),bW (bG F c))
    | none=>ω
   | _=>ω
  | _=>ω
 | none=>ω
def KO (P:Program) (c:ce):Option (AH×Option (FuncId×List Value)):=
 match fG c with
 | some (_,o,F,h)=>match o.op with
  | .call c=>match c.callee with
   | .value _=>Y (h,zJ P o F)
   | _=>ω
  | _=>ω
 | none=>ω
def LE:ce->Option (Value×AH)
 | .res [] acc _ h=>Y (one acc,h)
 | _=>ω
def gM:ce->Option ((FF->AH->Prop)×AH)
 | .out .normal (.rnd g :: _) _ h=>Y (g,h)
 | _=>ω
def FD:ce->Option AH
 | .code (.loop _) _ _ h=>Y h
 | _=>ω
def GT (c:ce) (g:FF->AH->Prop) (h:AH) (F:FF):ce:=
 match c with
 | .code (.loop b) k _ _=>.code b (.rnd g :: k) F h
 | _=>.bad
def Kj (c:ce) (g:FF->AH->Prop):ce:=
 match c with
 | .code b k F h=>.code b (.rnd g :: k) F h
 | _=>.bad
def Kk (c:ce) (h:AH) (F:FF):ce:=
 match c with
 | .code _ k _ _=>.out .normal k F h
 | _=>.bad
def Dw (id:Nat):ce->Bool
 | .code (.block i _) _ _ _=>Nat.beq (2*i) id
 | .code (.cond (.tmp t) _ _) _ _ _=>Nat.beq (2*t+1) id
 | _=>false
def FE (P:Program) (N:Nat) (rs:List ResultVar) (id n:Nat):ce->ce:=Nat.rec (motive:=λ_=>ce->ce) (λc=>c) (λ_ ih c=>cond (Dw id c) c (yp c ih (sN P N rs c))) n
def rj (P:Program) (N:Nat) (rs:List ResultVar) (id:Nat) (c:ce):ce:=FE P N rs id 1000 c
def FG (g:FF->AH->Prop) (F:FF) (h:AH):Prop:=g F h
def bw (l:List Nat) (F:FF):List (Option Value):=l.map F
def fp (l:List Value):List (Option Value):=l.map Y
def E1:List Nat->List Value->FF->FF
 | s :: ss,v :: vs,G=>FF.put (E1 ss vs G) s v
 | _,_,G=>G
def lK (fix:List Nat) (F G:FF):FF:=λk=>cond (mem k fix) (F k) (G k)
section
variable {P:Program}{N:Nat}{rs:List ResultVar}{Q:Value->AH->Prop}{ops:Array Oper}{F:FF}{h:AH}{c:ce}
theorem HA {o:Oper}(hc:fG c=Y (ops,o,F,h)):Kd c=h:=by
 unfold fG at hc
 split at hc
 .split at hc
  .obtain⟨_,hc⟩:=af hc;injection hc with hc;injection hc with e1 hc;injection hc with e2 hc;injection hc with e3 e4
  .cases hc
 .cases hc
theorem nj {o:Oper}(hc:fG c=Y (ops,o,F,h)):E0 ops F o=true:=by
 unfold fG at hc
 split at hc
 .split at hc
  .obtain⟨hg,hc⟩:=af hc;injection hc with hc;injection hc with e1 hc;injection hc with e2 hc;injection hc with e3 e4;subst e1 e2 e3;exact hg
  .cases hc
 .cases hc
theorem kw {o:Oper}{v:Value}(hc:fG c=Y (ops,o,F,h)) (hk:aI P o = .val) (hv:jP P o F h=Y v) (K:CF P N rs Q (Bt N c v)):CF P N rs Q c:=by
 unfold Bt at K;rw[HA hc]at K;exact sO hc (Ds hk (nj hc) hv) K
theorem Dx {t:TypeId}{x:Value}{b o:Nat}{f:Option Nat}{h':AH}(hv:Ke P h t x=Y (h',b,o,f)):h' = h/\x = ξ (Y ⟨b,o,ω⟩)/\oI P t=Y f:=by
 unfold Ke at hv
 split at hv
 .split at hv
  .rename_i hf;injection hv with hv;injection hv with e1 hv;injection hv with e2 hv;injection hv with e3 e4;subst e1 e2 e3 e4;exact⟨rfl,rfl,hf⟩
  .cases hv
 .cases hv
theorem Dy {op:Op}{b o:Nat}{f:Option Nat}{h':AH}(hv:Kf P F h op=Y (h',b,o,f)):h' = h/\∃t x,op = .load t x/\bG F x = ξ (Y ⟨b,o,ω⟩)/\oI P t=Y f:=by
 unfold Kf at hv
 split at hv
 .rename_i t x;obtain⟨a1,a2,a3⟩:=Dx hv;exact⟨a1,t,x,rfl,a2,a3⟩
 .cases hv
theorem zO {o:Oper}{t:TypeId}{x:Operand}{b k:Nat}{v:Value}(hop:o.op = .load t x) (hx:bG F x = ξ (Y ⟨b,k,ω⟩)) (hl:Ht P t h b k=Y v):aI P o = .val/\jP P o F h=Y v:=by
 refine⟨by unfold aI;rw[hop],?_⟩;unfold jP;rw[hop];show iK P t (bG F x) h=Y v;rw[hx];exact hl
theorem zP {b o:Nat}{f:Option Nat}{v:Value}(hv:IB P c=Y (h,b,o,f)) (hl:∀t,oI P t=Y f->Ht P t h b o=Y v) (ho:Dv v c=Y v) (he:bO v\/KE v c=true) (K:CF P N rs Q (Bt N c v)):CF P N rs Q c:=by
 unfold IB at hv
 split at hv
 .rename_i ops i a l k F h'
  split at hv
  .rename_i op hop;obtain⟨hg,hv⟩:=af hv;obtain⟨rfl,t,x,h1,h2,h3⟩:=Dy hv;have hev:=zO h1 h2 (hl t h3);have he':bO v:=he.elim id Hz;have hold:(match ops[i]? with | some o=>(match o.dst with | some d=>F d | none=>ω) | none=>ω)=Y v:=ho;rw[hop]at hold;simp only at hold;refine⟨AG.cons ?_ K.1,K.2⟩;unfold ik;rw[hop];simp only;have hlk:looks P op.op=true:=by rw[h1];rfl
   rw[hlk,(gD hg).1,hev.2];simp only[cond_true];unfold zK
   split at hold
   .rename_i d hd;simp only[hd,hold];exact gF 6 he'
   .cases hold
  .cases hv
 .rename_i a t l acc F h'
  split at hv
  .rename_i x hx;obtain⟨rfl,h2,h3⟩:=Dx hv;obtain⟨vs,k1,k2⟩:=K;exact⟨v :: vs,.cell (by rw[hx,h2]) (hl t h3) k1,by rw[List.append_assoc]at k2;exact k2⟩
  .cases hv
 .split at hv
  .rename_i ops op F h' hc;obtain⟨rfl,t,x,h1,h2,h3⟩:=Dy hv;have hev:=zO h1 h2 (hl t h3);exact kw hc hev.1 hev.2 K
  .cases hv
theorem LX {b o:Nat}{v:Value}{R:Prop}(H:ldC h b o=Y v/\R) (K:R->CF P N rs Q (Bt N c v)) (hv:IB P c=Y (h,b,o,ω):=by kernel_rfl) (ho:Dv v c=Y v:=by kernel_rfl) (he:KE v c=true:=by kernel_rfl):CF P N rs Q c:=
 (zP hv (λt ht=>IW ht H.1) ho (.inr he) (K H.2))
theorem LY {b o:Nat}{v:Value}{R:Prop}(H:ldC h b o=Y v/\bO v/\R) (K:R->CF P N rs Q (Bt N c v)) (hv:IB P c=Y (h,b,o,ω):=by kernel_rfl) (ho:Dv v c=Y v:=by kernel_rfl):CF P N rs Q c:=
 (zP hv (λt ht=>IW ht H.1) ho (.inl H.2.1) (K H.2.2))
theorem L0 {b o n:Nat}{v:List Value}{R:Prop}(H:aB h b o n=Y v/\R) (K:R->CF P N rs Q (Bt N c (.agg v.toArray))) (hv:IB P c=Y (h,b,o,Y n):=by kernel_rfl) (ho:Dv (.agg v.toArray) c=Y (.agg v.toArray):=by kernel_rfl) (he:KE (.agg v.toArray) c=true:=by kernel_rfl):CF P N rs Q c:=
 (zP hv (λt ht=>IX ht H.1) ho (.inr he) (K H.2))
theorem L2 {b o n:Nat}{v:List Value}{w:Value}{R:Prop}(H:aB h b o n=Y v/\bO w/\R) (K:R->CF P N rs Q (Bt N c (.agg v.toArray))) (hw:w = .agg v.toArray:=by kernel_rfl) (hv:IB P c=Y (h,b,o,Y n):=by kernel_rfl) (ho:Dv (.agg v.toArray) c=Y (.agg v.toArray):=by kernel_rfl):CF P N rs Q c:=
 (zP hv (λt ht=>IX ht H.1) ho (.inl (hw ▸ H.2.1)) (K H.2.2))
theorem L3 {b o:Nat}{vs:List Value}{h2:AH}{R:Prop}(H:j0 h b o vs=Y h2/\R) (K:R->CF P N rs Q (FA N c undef h2)) (hv:Lu P c=Y (h,b,o,vs):=by kernel_rfl):CF P N rs Q c:=by
 have K:=K H.2;have hs:=H.1;unfold Lu at hv
 split at hv
 .rename_i ops op F h0 hc
  split at hv
  .rename_i t x y hop hdst
   split at hv
   .rename_i i b' k' hi hp;obtain⟨hb,hv⟩:=af hv;injection hv with hv;injection hv with e1 hv;injection hv with e2 hv;injection hv with e3 e4;subst e1 e2 e3;refine sO hc (uw (by unfold aI;rw[hop]) (nj hc) ?_) K;unfold Br;rw[hop];show mQ h0 (P.info? t) (bG F x) (bG F y)=_;rw[hi,hp];unfold mQ;simp only[hb,cond_true];unfold j0 at hs;rw[e4,hs]
   .cases hv
  .cases hv
 .cases hv
theorem lu {X:Option VH}{v:Value}{h2:AH}{R:Prop}(H:X=Y (v,h2)/\R) (K:R->CF P N rs Q (FA N c v h2)) (hv:Lv P c=Y X:=by kernel_rfl):CF P N rs Q c:=by
 have K:=K H.2;unfold Lv at hv
 split at hv
 .rename_i ops op F h0 hc
  split at hv
  .rename_i hk;injection hv with hv;exact sO hc (uw hk (nj hc) (hv.trans H.1)) K
  .cases hv
 .cases hv
theorem Dz {X:Option Value}(hv:I3 P c=Y X):∃ops o F h,fG c=Y (ops,o,F,h)/\aI P o = .val/\jP P o F h=X:=by
 unfold I3 at hv
 split at hv
 .rename_i ops op F h0 hc
  split at hv
  .rename_i hk;injection hv with hv;exact⟨_,_,_,_,hc,hk,hv⟩
  .cases hv
 .cases hv
theorem vx {X:Option Value}{v:Value}{R:Prop}(H:X=Y v/\R) (K:R->CF P N rs Q (Bt N c v)) (hv:I3 P c=Y X:=by kernel_rfl):CF P N rs Q c:=
 let ⟨_,_,_,_,h1,h2,h3⟩:=Dz hv
 (kw h1 h2 (h3.trans H.1) (K H.2))
theorem FI {X:Option (Option Value)}{k:IntKind}{t:Int}(h:FC X=Y (k,t)):X=Y (Y (.int k t)):=by
 unfold FC at h
 split at h
 .injection h with h;injection h with h1 h2;subst h1 h2;rfl
 .cases h
theorem wr {t r:Int}{R:Prop}(H:t=r/\R) (K:R->CF P N rs Q (Bt N c (.int (KF P c) r))) (hv:Lw P c=Y t:=by kernel_rfl):CF P N rs Q c:=by
 have K:=K H.2;unfold Lw at hv
 split at hv
 .rename_i k t' hi;injection hv with hv;obtain⟨_,_,_,_,h1,h2,h3⟩:=Dz (FI hi);have hk:KF P c=k:=by unfold KF;rw[hi]
  rw[hk,<-H.1,<-hv]at K;exact kw h1 h2 h3 K
 .cases hv
theorem FJ {o:Oper}{t yt:TypeId}{x y:Operand}{k:IntKind}{a b:Int}(ho:o.op = .binOp .quo t x y yt) (hx:bG F x = .int k a) (hy:bG F y = .int k b) (hz:b≠0):nf P o F=Y (.int k (k.wrap (a.tdiv b))):=by
 unfold nf;have h1:(aV (λz=>pl (bG F z)) o.op.operands.toList)=true:=by
  rw[ho];show aV (λz=>pl (bG F z)) [x,y]=true;unfold aV;simp only[hx,hy];rfl
 rw[h1];simp only[cond_true];unfold execOp;rw[ho];simp only[hx,hy];unfold binOp;simp[Op.intDiv,hz];rfl
theorem FK {o:Oper}{t yt:TypeId}{x y:Operand}{k:IntKind}{a b:Int}(ho:o.op = .binOp .rem t x y yt) (hx:bG F x = .int k a) (hy:bG F y = .int k b) (hz:b≠0):nf P o F=Y (.int k (a.tmod b)):=by
 unfold nf;have h1:(aV (λz=>pl (bG F z)) o.op.operands.toList)=true:=by
  rw[ho];show aV (λz=>pl (bG F z)) [x,y]=true;unfold aV;simp only[hx,hy];rfl
 rw[h1];simp only[cond_true];unfold execOp;rw[ho];simp only[hx,hy];unfold binOp;simp[Op.intDiv,hz];rfl
theorem HB {k:IntKind}{b t:Int}(hv:Kg c=Y (k,b,t)) (hz:b≠0):∃ops o F h,fG c=Y (ops,o,F,h)/\aI P o = .val/\jP P o F h=Y (.int k t):=by
 unfold Kg at hv
 split at hv
 .rename_i ops o F h0 hc
  split at hv
  .rename_i r x y hq;unfold Lx at hv
   split at hv
   .rename_i k' a l b' hx hy;obtain⟨hkl,hv2⟩:=af hv;clear hv;have hkl:=eq_of_beq hkl;subst hkl;injection hv2 with hv;injection hv with e1 hv;injection hv with e2 e3;subst e1 e2 e3;refine⟨ops,o,F,h0,hc,?_⟩;unfold GS at hq
    split at hq
    .rename_i t x' y' yt hop;injection hq with hq;injection hq with e1 hq;injection hq with e2 e3;subst e1 e2 e3;refine⟨by unfold aI;rw[hop],?_⟩;unfold jP;rw[hop];show qh P .quo t o F (bG F x') (bG F y')=_;rw[hx,hy];unfold qh;simp only[beq_self_eq_true,cond_true];exact FJ hop hx hy hz
    .rename_i t x' y' yt hop;injection hq with hq;injection hq with e1 hq;injection hq with e2 e3;subst e1 e2 e3;refine⟨by unfold aI;rw[hop],?_⟩;unfold jP;rw[hop];show qh P .rem t o F (bG F x') (bG F y')=_;rw[hx,hy];unfold qh;simp only[beq_self_eq_true,cond_true];exact FK hop hx hy hz
    .cases hq
   .cases hv
  .cases hv
 .cases hv
theorem qo {b t r:Int}{R:Prop}(H:b≠0/\t=r/\R) (K:R->CF P N rs Q (Bt N c (.int (KG c) r))) (hv:Ly c=Y (b,t):=by kernel_rfl):CF P N rs Q c:=by
 have K:=K H.2.2;unfold Ly at hv
 split at hv
 .rename_i k b' t' hi;injection hv with hv;injection hv with e1 e2;subst e1 e2;obtain⟨_,_,_,_,h1,h2,h3⟩:=HB (P:=P) hi H.1;have hk:KG c=k:=by unfold KG;rw[hi]
  rw[hk,<-H.2.1]at K;exact kw h1 h2 h3 K
 .cases hv
theorem HC {q:Bool}(hv:KH c=Y q):∃ops o F h,fG c=Y (ops,o,F,h)/\aI P o = .val/\jP P o F h=Y (.bool (xor (Ja c) q)):=by
 unfold KH at hv
 split at hv
 .rename_i ops o F h0 hc
  split at hv
  .rename_i op t x y yt hop;refine⟨ops,o,F,h0,hc,by unfold aI;rw[hop],?_⟩;have hn:Ja c=zM op:=by unfold Ja;rw[hc];simp only[hop]
   unfold jP;rw[hop,hn];show qh P op t o F (bG F x) (bG F y)=_;unfold I6 at hv
   split at hv
   .rename_i k a l b hx hy;obtain⟨hkl,hv⟩:=af hv;rw[hx,hy];unfold qh;simp only[hkl,cond_true];unfold I4 at hv;cases op <;>simp only at hv <;>first | (cases hv;done) | (injection hv with hv;subst hv;simp[sd,zM,bne])
   .rename_i a b hx hy;rw[hx,hy];show nf P o F=_;unfold I5 at hv;cases op <;>simp only at hv <;>first | (cases hv;done) | skip
    all_goals
     injection hv with hv;subst hv;obtain⟨_,op⟩:=o;simp only at hop;subst hop;have e:(a.toList == b.toList)=decide (a.toList=b.toList):=by rw[Bool.eq_iff_iff];simp
     simp only[nf,Op.operands,execOp,hx,hy,binOp,Op.stringOp,e];generalize decide (a.toList=b.toList)=q;simp[hx,hy,aV,pl,plain,av,ll,zM,eqGuard]
     try rfl
   .cases hv
  .cases hv
 .cases hv
theorem ts {p:Prop} [Decidable p] {A B:Prop}(H:(p->A)/\(¬p->B)) (K1:A->CF P N rs Q (Bt N c (.bool (Bool.not (Ja c))))) (K2:B->CF P N rs Q (Bt N c (.bool (Ja c)))) (hv:KH c=Y (decide p):=by kernel_rfl):CF P N rs Q c:=by
 obtain⟨_,_,_,_,h1,h2,h3⟩:=HC (P:=P) hv;by_cases hp:p
 .refine kw h1 h2 (h3.trans ?_) (K1 (H.1 hp));simp[hp]
 .refine kw h1 h2 (h3.trans ?_) (K2 (H.2 hp));simp[hp]
theorem HD {b o n k s:Nat}(hv:Kh P c=Y (b,o,n,k,s)) (hk:k<n):∃ops op F h,fG c=Y (ops,op,F,h)/\aI P op = .val/\jP P op F h=Y (ξ (Y ⟨b,o+k*s,ω⟩)):=by
 unfold Kh at hv
 split at hv
 .rename_i ops op F h0 hc
  split at hv
  .rename_i t x ix hop;refine⟨ops,op,F,h0,hc,by unfold aI;rw[hop],?_⟩;unfold jP;rw[hop];show dV P (P.underlying t) (bG F x) (bW (bG F ix))=_;have hi:∀(e:TypeId) (i:TypeInfo),P.info? e=Y i->idx P e ⟨b,o,ω⟩ n k=Y (ξ (Y ⟨b,o+k*i.size,ω⟩)):=by
    intro e i h1;unfold idx;simp only[h1];have:Nat.blt k n=true:=Nat.ble_eq_true_of_le hk;rw[this];simp only[cond_true];unfold Addr.add
    split
    .rename_i h0;simp[h0]
    .rfl
   unfold Lz at hv;unfold dV
   split at hv
   .rename_i e b' o' n' K' k' hu hx hn
    split at hv
    .rename_i i hi0;injection hv with hv;injection hv with e1 hv;injection hv with e2 hv;injection hv with e3 hv;injection hv with e4 e5;subst e1 e2 e3 e4 e5;rw[hu,hx,hn];exact hi e i hi0
    .cases hv
   .rename_i n' e b' o' k' hu hx hn
    split at hv
    .rename_i i hi0;injection hv with hv;injection hv with e1 hv;injection hv with e2 hv;injection hv with e3 hv;injection hv with e4 e5;subst e1 e2 e3 e4 e5;rw[hu,hx,hn];exact hi e i hi0
    .cases hv
   .cases hv
  .cases hv
 .cases hv
theorem ix {n k:Nat}{R:Prop}(H:k<n/\R) (K:R->CF P N rs Q (Bt N c (KI P c))) (hv:LC P c=Y (n,k):=by kernel_rfl):CF P N rs Q c:=by
 have K:=K H.2;unfold LC at hv
 split at hv
 .rename_i b o n' k' s hi;injection hv with hv;injection hv with e1 e2;subst e1 e2;obtain⟨_,_,_,_,h1,h2,h3⟩:=HD hi H.1;have hV:KI P c = ξ (Y ⟨b,o+k'*s,ω⟩):=by
   unfold KI;rw[hi];simp only;cases hs:Nat.beq s 1 with
   | false=>rfl
   | true=>rw[aq hs,Nat.mul_one];rfl
  rw[hV]at K;exact kw h1 h2 h3 K
 .cases hv
theorem nw {ao:AO}{R:AH->Prop}(H:∀h2,h2=AH.new h ao->R h2) (K:∀h2,h2=AH.new h ao->R h2->CF P N rs Q (FA N c (KM P c) h2)) (hv:LD P c=Y (h,ao):=by kernel_rfl):CF P N rs Q c:=by
 have K:=K _ rfl (H _ rfl);unfold LD at hv
 split at hv
 .rename_i h' b f hi;injection hv with hv;injection hv with e1 e2;subst e1 e2;have hV:KM P c=f h'.next:=by unfold KM;rw[hi]
  rw[hV]at K;unfold KJ at hi
  split at hi
  .rename_i ops o F h0 hc
   split at hi
   .rename_i hk
    split at hi
    .rename_i b' hb;injection hi with hi;injection hi with e1 e2;subst e1 e2;exact sO hc (Dt hk (nj hc) hb) K
    .cases hi
   .cases hi
  .cases hi
 .cases hv
theorem LF {e n k:Nat}{zl:List Value}{R:AH->Prop}(H:n<=k/\k<1000000/\∀h2,h2=AH.new h (.cells (dD k zl) e false)->R h2) (K:∀h2,h2=AH.new h (.cells (dD k zl) e false)->R h2->CF P N rs Q (FA N c (ψ (Y ⟨h.next,0,ω⟩) n (cx k)) h2)) (hv:KN P c=Y (h,e,zl,Y n,Y k):=by kernel_rfl):CF P N rs Q c:=by
 obtain⟨hn,hc,H⟩:=H;have K:=K _ rfl (H _ rfl);unfold KN at hv
 split at hv
 .rename_i ops o F h0 hat
  split at hv
  .rename_i t x y hop
   split at hv
   .rename_i e' hu
    split at hv
    .rename_i zl' hz;injection hv with hv;injection hv with h1 hv;injection hv with h2 hv;injection hv with h3 hv;injection hv with h4 h5;subst h1 h2 h3;refine sO hat (Dt (ao:=.cells (dD k zl') e' false) (f:=oV n (cx k)) (by unfold aI;rw[hop]) (nj hat) ?_) K;unfold Fz;rw[hop];show fg P (P.underlying t) (bW (bG F x)) (bW (bG F y))=_;rw[hu,h4,h5];show zw e' n k (P.info? e')=_;unfold zN at hz;unfold zw
     split at hz
     .rename_i i hi;rw[hi];simp only
      split at hz
      .rename_i z hz0;rw[hz0];simp only;have hb1:Nat.ble n k=true:=Nat.ble_eq_true_of_le hn;have hb2:Nat.blt k 1000000=true:=Nat.ble_eq_true_of_le hc;obtain⟨hzz,hz⟩:=af hz;injection hz with hz;simp only[Bool.and_eq_true]at hzz;rw[hb1,hb2,hzz.1,hzz.2];simp only[Bool.and_self,cond_true,hz]
      .cases hz
     .cases hz
    .cases hv
   .cases hv
  .cases hv
 .cases hv
theorem mk {e k:Nat}{zl:List Value}{R:AH->Prop}(H:k<1000000/\∀h2,h2=AH.new h (.cells (dD k zl) e false)->R h2) (K:∀h2,h2=AH.new h (.cells (dD k zl) e false)->R h2->CF P N rs Q (FA N c (ψ (Y ⟨h.next,0,ω⟩) k (cx k)) h2)) (hv:KN P c=Y (h,e,zl,Y k,Y k):=by kernel_rfl):CF P N rs Q c:=
 LF ⟨Nat.le_refl _,H⟩ K hv
theorem ca {g:FuncId}{args:List Value}{R:Value->AH->Prop}(H:WC P g args h R) (K:∀v h2,R v h2->CF P N rs Q (FA N c v h2)) (hv:KO P c=Y (h,Y (g,args)):=by kernel_rfl):CF P N rs Q c:=by
 unfold KO at hv
 split at hv
 .rename_i ops o F h0 hc
  split at hv
  .rename_i cl hop
   split at hv
   .rename_i f hcl;injection hv with hv;injection hv with e1 e2;subst e1;obtain⟨n,v,h',hr,hK⟩:=H;refine sO hc (λfr hfr=>?_) (K v h' hK);obtain⟨hw,hco⟩:=gD (nj hc);refine W1.wanted (by rw[nh,hfr];exact hw) (W1.call (g:=g) (args:=args) rfl hco ?_ ?_ ?_ ⟨n,v,h',hr,rfl,rfl⟩)
    .show aI P o = .loud;unfold aI;simp only[hop,hcl]
    .show vE P o fr h0=ω;rw[GN];unfold Br;rw[hop];show ym P fr.get h0 cl=ω;unfold ym;rw[hcl]
    .show callee P o fr=_;rw[Dp,hfr];exact e2
   .cases hv
  .cases hv
 .cases hv
theorem fc {g:FuncId}{args:List Value}{R:Value->AH->Prop}(H:bh P g=true/\WC P g args h R) (K:∀v h2,R v h2->CF P N rs Q (FA N c v h2)) (hv:KO P c=Y (h,cond (bh P g) (Y (g,args)) ω):=by kernel_rfl):CF P N rs Q c:=
 ca H.2 K (by rw[hv,H.1];rfl)
theorem fin {v:Value}(H:Q v h) (hv:LE c=Y (v,h):=by kernel_rfl):CF P N rs Q c:=by
 unfold LE at hv
 split at hv
 .rename_i acc F h';injection hv with hv;injection hv with e1 e2;subst e1 e2;exact⟨[],.nil,by rw[List.append_nil];exact H⟩
 .cases hv
theorem rE {g:FF->AH->Prop}(E:FG g (xR c) h) (hv:gM c=Y (g,h):=by kernel_rfl):CF P N rs Q c:=by
 unfold gM at hv
 split at hv
 .injection hv with hv;injection hv with e1 e2;subst e1 e2;exact E
 .cases hv
theorem qi:∀(args:List Value) (i:Nat) (t:Tr Value) (k:Nat),(frame i args t).get k=if i<=k then(match aF args (k - i) with | some v=>Y v | none=>t.get k) else t.get k
 | [],i,t,k=>by
  show t.get k=_
  split <;>rfl
 | v :: l,i,t,k=>by
  show(frame (i+1) l (t.set i (Y v))).get k=_;rw[qi l (i+1) (t.set i (Y v)) k];by_cases hik:i+1<=k
  .rw[if_pos hik,if_pos U];obtain⟨m,hm⟩:∃m,k - i=m+1:=⟨k - i - 1,U⟩;have h2:k - (i+1)=m:=U;rw[hm,h2,Tr.get_set_ne _ _ U];rfl
  .rw[if_neg hik];by_cases e:i=k
   .subst e;rw[Tr.get_set,if_pos (Nat.le_refl _),Nat.sub_self];rfl
   .rw[Tr.get_set_ne _ _ e,if_neg U]
theorem yq:∀(ss:List Nat) (vs:List Value){F:FF},bw ss F=fp vs->E1 ss vs F=F
 | [],vs,F,_=>by cases vs <;>rfl
 | s :: ss,[],F,hl=>by cases hl
 | s :: ss,v :: vs,F,hl=>by
  injection hl with h1 h2;have ih:=yq ss vs (F:=F) h2;show FF.put (E1 ss vs F) s v=F;rw[ih]
  funext k
  unfold FF.put;by_cases e:k=s
  .subst e;rw[Nat.beq_refl,h1];rfl
  .have hb:Nat.beq k s=false:=by
    cases hb:Nat.beq k s with
    | false=>rfl
    | true=>exact absurd (aq hb) e
   rw[hb];rfl
theorem we {fix:List Nat}{F G:FF}(hg:bw fix G=bw fix F):lK fix F G=G:=by
 funext k
 unfold lK;cases hm:mem k fix with
 | false=>rfl
 | true=>
  have hm:=jA.1 hm;have:∀l:List Nat,bw l G=bw l F->k∈l->G k=F k:=by
   intro l
   induction l with
   | nil=>intro _ h;cases h
   | cons s l ih=>
    intro h1 h2;injection h1 with a b;cases h2 with
    | head=>exact a
    | tail _ h2=>exact ih b h2
  exact(this fix hg hm).symm
theorem HE {ι:Type}(fix mod:List Nat) (vals:ι->List Value) (J:Nat->ι->AH->Prop){m0:Nat}{x0:ι}(h0:J m0 x0 h)
  (K:∀m x h G g,(∀F h x,(∃m',m' < m/\J m' x h)->bw mod F=fp (vals x)->bw fix F=bw fix (xR c)->FG g F h)->J m x h->CF P N rs Q (GT c g h (E1 mod (vals x) (lK fix (xR c) G))))
  (hh:FD c=Y h) (hF:bw mod (xR c)=fp (vals x0)):CF P N rs Q c:=by
 unfold FD at hh
 split at hh
 .rename_i b k F h';injection hh with hh;subst hh;intro fr hs;refine W.loop (λm fr h=>∃F' x,rH N F' fr/\J m x h/\bw mod F' = fp (vals x)/\bw fix F' = bw fix F) m0 ⟨F,x0,hs,h0,hF,rfl⟩ ?_;rintro m fr h ⟨F',x,hs,hJ,h1,h2⟩;have k1:=K m x h F' (λF'' h''=>∃m' x',m' < m/\J m' x' h''/\bw mod F'' = fp (vals x')/\bw fix F'' = bw fix F) (λF'' h'' x' ⟨m',a1,a2⟩ a3 a4=>⟨m',x',a1,a2,a3,a4⟩) hJ;have e:E1 mod (vals x) (lK fix F F')=F':=by rw[we h2];exact yq _ _ h1
  have k2:CF P N rs Q (.code b (.rnd _ :: k) (E1 mod (vals x) (lK fix F F')) h):=k1;rw[e]at k2;refine(k2 fr hs).mono λe fr' h'=>?_;rintro⟨F'',hs',q⟩;cases e with
  | normal=>
   obtain⟨m',x',a1,a2,a3,a4⟩:=q;exact⟨m',a1,F'',x',hs',a2,a3,a4⟩
  | exit i=>exact⟨F'',hs',q⟩
  | ret=>exact⟨F'',hs',q⟩
 .cases hh
theorem zQ {id:Nat}:∀(n:Nat) (c:ce),CF P N rs Q (FE P N rs id n c)->CF P N rs Q c
 | 0,c,K=>K
 | n+1,c,K=>by
  have K':CF P N rs Q (cond (Dw id c) c (yp c (FE P N rs id n) (sN P N rs c))):=K;cases hs:Dw id c with
  | true=>rw[hs]at K';exact K'
  | false=>
   rw[hs]at K';have K2:CF P N rs Q (yp c (FE P N rs id n) (sN P N rs c)):=K';unfold yp at K2
   split at K2
   .rename_i c' hs;exact wd hs (zQ n c' K2)
   .exact K2
theorem KP {ι:Type}(id:Nat) (fix mod:List Nat) (vals:ι->List Value) (R:ι->AH->Prop)
  (K2:∀x h G,R x h->CF P N rs Q (Kk (rj P N rs id c) h (E1 mod (vals x) (lK fix (xR (rj P N rs id c)) G))))
  (K1:∀g,(∀F h x,R x h->bw mod F=fp (vals x)->bw fix F=bw fix (xR (rj P N rs id c))->FG g F h)->CF P N rs Q (Kj (rj P N rs id c) g)):CF P N rs Q c:=by
 refine zQ (id:=id) 1000 c ?_;show CF P N rs Q (rj P N rs id c);generalize rj P N rs id c=c at K1 K2;have k1:=K1 (λF' h'=>∃x,R x h'/\bw mod F' = fp (vals x)/\bw fix F' = bw fix (xR c)) (λF' h' x a1 a2 a3=>⟨x,a1,a2,a3⟩);cases c with
 | code b k F h=>
  intro fr hs;refine(k1 fr hs).mono λe fr' h'=>?_;rintro⟨F',hs',q⟩;cases e with
  | normal=>
   obtain⟨x,a1,a2,a3⟩:=q;refine⟨F',hs',?_⟩;have k2:=K2 x h' F' a1;have e:E1 mod (vals x) (lK fix F F')=F':=by rw[we (F:=F) a3];exact yq _ _ a2
   have k3:CF P N rs Q (.out .normal k (E1 mod (vals x) (lK fix F F')) h'):=k2;rw[e]at k3;exact k3
  | exit i=>exact⟨F',hs',q⟩
  | ret=>exact⟨F',hs',q⟩
 | _=>exact k1.elim
def GU (p:Prop):Prop:=p
abbrev EG (c0:ce) (fix mod:List Nat) (g:FF->AH->Prop) (F:FF) (h:AH) (vs:List Value):Prop:=bw mod F=fp vs->bw fix F=bw fix (xR c0)->FG g F h
abbrev E2 (c0:ce) (fix mod:List Nat) (vs:List Value) (G:FF):FF:=E1 mod vs (lK fix (xR c0) G)
abbrev AQ (p:Option Addr) (R:Nat->Nat->Prop):Prop:=∃b o,p=Y ⟨b,o,ω⟩/\R b o
abbrev NK (x:Int) (R:Nat->Prop):Prop:=∃k:Nat,x=(k:Int)/\R k
abbrev WR (t:Int) (R:Int->Prop):Prop:=∃x,IntKind.i64.wrap t=x/\R x
abbrev LI (h:AH) (b o:Nat) (R:Int->Prop):Prop:=∃x,ldC h b o=Y (.int .i64 x)/\R x
abbrev LZ (h:AH) (b o:Nat) (R:Option Addr->Nat->Nat->Prop):Prop:=∃A n K,ldC h b o=Y (ψ A n K)/\R A n K
abbrev LP (h:AH) (b o:Nat) (R:Option Addr->Prop):Prop:=∃p,ldC h b o=Y (.pointer p)/\R p
abbrev ST (h:AH) (b o:Nat) (vs:List Value) (R:AH->Prop):Prop:=∃h2,j0 h b o vs=Y h2/\R h2
abbrev NW (h:AH) (ao:AO) (R:AH->Prop):Prop:=∀h2,h2=AH.new h ao->R h2
abbrev TS (p:Prop) (A B:Prop):Prop:=(p->A)/\(¬p->B)
abbrev BS (b:Bool) (A B:Prop):Prop:=(b=true->A)/\(b=false->B)
abbrev RE (m:Nat) (R:Nat->Prop):Prop:=∃m',m' < m/\R m'
theorem L4 {p R G:Prop}(H:GU p/\R) (K:R->G):G:=K H.2
theorem L5 {α:Sort _}{p:α->Prop}{G:Prop}(H:∃x,p x) (K:∀x,p x->G):G:=let ⟨x,h⟩:=H;K x h
theorem KQ {x:Int}{k:Nat}{R G:Prop}(H:x=(k:Int)/\R) (K:x=(k:Int)->R->G):G:=K H.1 H.2
theorem L6 {α:Type}{x y:α}{R G:Prop}(H:x=y/\R) (K:x=y->R->G):G:=K H.1 H.2
theorem L7 {b:Bool}{A B G:Prop}(H:(b=true->A)/\(b=false->B)) (K1:b=true->A->G) (K2:b=false->B->G):G:=by
 cases b
 .exact K2 rfl (H.2 rfl)
 .exact K1 rfl (H.1 rfl)
theorem L8 {α:Type}{x:Option α}{A B G:Prop}(H:(x=ω->A)/\(x≠ω->B)) (K1:x=ω->A->G) (K2:True->B->G):G:=by
 cases x
 .exact K1 rfl (H.1 rfl)
 .exact K2 trivial (H.2 (by simp))
theorem L9 {e:Option (Nat×Value)}{A:Prop}{B:Nat->Value->Prop}{G:Prop}(H:(e=ω->A)/\(∀t v,e=Y (t,v)->B t v)) (K1:e=ω->A->G) (K2:∀t v,e=Y (t,v)->B t v->G):G:=by
 rcases e with _ | ⟨t,v⟩
 .exact K1 rfl (H.1 rfl)
 .exact K2 t v rfl (H.2 t v rfl)
abbrev LG (fix mod:List Nat) (vals:List Value):Type:=Nat->AH->Prop
theorem Ma {fix mod:List Nat}{vals:List Value}{J:LG fix mod vals}{m0:Nat}{R:Nat->AH->Prop}{T:Prop}(E:T) (H:J m0 h/\∀m h,J m h->R m h) (K:∀m h G g,((∀{F h},(∃m',m' < m/\J m' h)->EG c fix mod g F h (vals))/\T)->R m h->CF P N rs Q (GT c g h (E2 c fix mod (vals) G))) (hh:FD c=Y h:=by kernel_rfl) (hF:bw mod (xR c)=fp (vals):=by kernel_rfl):CF P N rs Q c:=
 HE (ι:=Unit) fix mod (λx=>vals) (λm x h=>J m h) (x0:=()) H.1 (λm x h G g e hJ=>K m h G g ⟨fun {F h}=>e F h (),E⟩ (H.2 m h hJ)) hh hF
abbrev Jb (id:Nat) (fix mod:List Nat) (vals:List Value):Type:=AH->Prop
theorem Mb {id:Nat}{fix mod:List Nat}{vals:List Value}{J:Jb id fix mod vals}{R:AH->Prop}{T B:Prop}(E:T) (H:(∀h,J h->R h)/\B) (K2:∀h G,T->R h->CF P N rs Q (Kk (rj P N rs id c) h (E2 (rj P N rs id c) fix mod (vals) G))) (K1:∀g,((∀{F h},J h->EG (rj P N rs id c) fix mod g F h (vals))/\T)->B->CF P N rs Q (Kj (rj P N rs id c) g)):CF P N rs Q c:=
 KP (ι:=Unit) id fix mod (λx=>vals) (λx h=>J h) (λx h G hJ=>K2 h G E (H.1 h hJ)) (λg e=>K1 g ⟨fun {F h}=>e F h (),E⟩ H.2)
abbrev bD {A0:Type}(fix mod:List Nat) (vals:A0->List Value):Type:=Nat->A0->AH->Prop
theorem Mc {A0:Type}{fix mod:List Nat}{vals:A0->List Value}{J:bD fix mod vals}{m0:Nat}{a0:A0}{R:Nat->A0->AH->Prop}{T:Prop}(E:T) (H:J m0 a0 h/\∀m x0 h,J m x0 h->R m x0 h) (K:∀m x0 h G g,((∀{F h x0},(∃m',m' < m/\J m' x0 h)->EG c fix mod g F h (vals x0))/\T)->R m x0 h->CF P N rs Q (GT c g h (E2 c fix mod (vals x0) G))) (hh:FD c=Y h:=by kernel_rfl) (hF:bw mod (xR c)=fp (vals a0):=by kernel_rfl):CF P N rs Q c:=
 HE (ι:=A0) fix mod (λx=>vals x) (λm x h=>J m x h) (x0:=a0) H.1 (λm x h G g e hJ=>K m x h G g ⟨fun {F h x0}=>e F h x0,E⟩ (H.2 m x h hJ)) hh hF
abbrev Md {A0:Type}(id:Nat) (fix mod:List Nat) (vals:A0->List Value):Type:=A0->AH->Prop
theorem Me {A0:Type}{id:Nat}{fix mod:List Nat}{vals:A0->List Value}{J:Md id fix mod vals}{R:A0->AH->Prop}{T B:Prop}(E:T) (H:(∀x0 h,J x0 h->R x0 h)/\B) (K2:∀x0 h G,T->R x0 h->CF P N rs Q (Kk (rj P N rs id c) h (E2 (rj P N rs id c) fix mod (vals x0) G))) (K1:∀g,((∀{F h x0},J x0 h->EG (rj P N rs id c) fix mod g F h (vals x0))/\T)->B->CF P N rs Q (Kj (rj P N rs id c) g)):CF P N rs Q c:=
 KP (ι:=A0) id fix mod (λx=>vals x) (λx h=>J x h) (λx h G hJ=>K2 x h G E (H.1 x h hJ)) (λg e=>K1 g ⟨fun {F h x0}=>e F h x0,E⟩ H.2)
abbrev sP {A0 A1:Type}(fix mod:List Nat) (vals:A0->A1->List Value):Type:=Nat->A0->A1->AH->Prop
theorem Mf {A0 A1:Type}{fix mod:List Nat}{vals:A0->A1->List Value}{J:sP fix mod vals}{m0:Nat}{a0:A0}{a1:A1}{R:Nat->A0->A1->AH->Prop}{T:Prop}(E:T) (H:J m0 a0 a1 h/\∀m x0 x1 h,J m x0 x1 h->R m x0 x1 h) (K:∀m x0 x1 h G g,((∀{F h x0 x1},(∃m',m' < m/\J m' x0 x1 h)->EG c fix mod g F h (vals x0 x1))/\T)->R m x0 x1 h->CF P N rs Q (GT c g h (E2 c fix mod (vals x0 x1) G))) (hh:FD c=Y h:=by kernel_rfl) (hF:bw mod (xR c)=fp (vals a0 a1):=by kernel_rfl):CF P N rs Q c:=
 HE (ι:=A0×A1) fix mod (λx=>vals x.1 x.2) (λm x h=>J m x.1 x.2 h) (x0:=(a0,a1)) H.1 (λm x h G g e hJ=>K m x.1 x.2 h G g ⟨fun {F h x0 x1}=>e F h (x0,x1),E⟩ (H.2 m x.1 x.2 h hJ)) hh hF
abbrev Mg {A0 A1:Type}(id:Nat) (fix mod:List Nat) (vals:A0->A1->List Value):Type:=A0->A1->AH->Prop
theorem Mh {A0 A1:Type}{id:Nat}{fix mod:List Nat}{vals:A0->A1->List Value}{J:Mg id fix mod vals}{R:A0->A1->AH->Prop}{T B:Prop}(E:T) (H:(∀x0 x1 h,J x0 x1 h->R x0 x1 h)/\B) (K2:∀x0 x1 h G,T->R x0 x1 h->CF P N rs Q (Kk (rj P N rs id c) h (E2 (rj P N rs id c) fix mod (vals x0 x1) G))) (K1:∀g,((∀{F h x0 x1},J x0 x1 h->EG (rj P N rs id c) fix mod g F h (vals x0 x1))/\T)->B->CF P N rs Q (Kj (rj P N rs id c) g)):CF P N rs Q c:=
 KP (ι:=A0×A1) id fix mod (λx=>vals x.1 x.2) (λx h=>J x.1 x.2 h) (λx h G hJ=>K2 x.1 x.2 h G E (H.1 x.1 x.2 h hJ)) (λg e=>K1 g ⟨fun {F h x0 x1}=>e F h (x0,x1),E⟩ H.2)
abbrev KR {A0 A1 A2:Type}(fix mod:List Nat) (vals:A0->A1->A2->List Value):Type:=Nat->A0->A1->A2->AH->Prop
theorem Mi {A0 A1 A2:Type}{fix mod:List Nat}{vals:A0->A1->A2->List Value}{J:KR fix mod vals}{m0:Nat}{a0:A0}{a1:A1}{a2:A2}{R:Nat->A0->A1->A2->AH->Prop}{T:Prop}(E:T) (H:J m0 a0 a1 a2 h/\∀m x0 x1 x2 h,J m x0 x1 x2 h->R m x0 x1 x2 h) (K:∀m x0 x1 x2 h G g,((∀{F h x0 x1 x2},(∃m',m' < m/\J m' x0 x1 x2 h)->EG c fix mod g F h (vals x0 x1 x2))/\T)->R m x0 x1 x2 h->CF P N rs Q (GT c g h (E2 c fix mod (vals x0 x1 x2) G))) (hh:FD c=Y h:=by kernel_rfl) (hF:bw mod (xR c)=fp (vals a0 a1 a2):=by kernel_rfl):CF P N rs Q c:=
 HE (ι:=A0×A1×A2) fix mod (λx=>vals x.1 x.2.1 x.2.2) (λm x h=>J m x.1 x.2.1 x.2.2 h) (x0:=(a0,a1,a2)) H.1 (λm x h G g e hJ=>K m x.1 x.2.1 x.2.2 h G g ⟨fun {F h x0 x1 x2}=>e F h (x0,x1,x2),E⟩ (H.2 m x.1 x.2.1 x.2.2 h hJ)) hh hF
abbrev Bv {A0 A1 A2 A3:Type}(fix mod:List Nat) (vals:A0->A1->A2->A3->List Value):Type:=Nat->A0->A1->A2->A3->AH->Prop
theorem Mj {A0 A1 A2 A3:Type}{fix mod:List Nat}{vals:A0->A1->A2->A3->List Value}{J:Bv fix mod vals}{m0:Nat}{a0:A0}{a1:A1}{a2:A2}{a3:A3}{R:Nat->A0->A1->A2->A3->AH->Prop}{T:Prop}(E:T) (H:J m0 a0 a1 a2 a3 h/\∀m x0 x1 x2 x3 h,J m x0 x1 x2 x3 h->R m x0 x1 x2 x3 h) (K:∀m x0 x1 x2 x3 h G g,((∀{F h x0 x1 x2 x3},(∃m',m' < m/\J m' x0 x1 x2 x3 h)->EG c fix mod g F h (vals x0 x1 x2 x3))/\T)->R m x0 x1 x2 x3 h->CF P N rs Q (GT c g h (E2 c fix mod (vals x0 x1 x2 x3) G))) (hh:FD c=Y h:=by kernel_rfl) (hF:bw mod (xR c)=fp (vals a0 a1 a2 a3):=by kernel_rfl):CF P N rs Q c:=
 HE (ι:=A0×A1×A2×A3) fix mod (λx=>vals x.1 x.2.1 x.2.2.1 x.2.2.2) (λm x h=>J m x.1 x.2.1 x.2.2.1 x.2.2.2 h) (x0:=(a0,a1,a2,a3)) H.1 (λm x h G g e hJ=>K m x.1 x.2.1 x.2.2.1 x.2.2.2 h G g ⟨fun {F h x0 x1 x2 x3}=>e F h (x0,x1,x2,x3),E⟩ (H.2 m x.1 x.2.1 x.2.2.1 x.2.2.2 h hJ)) hh hF
abbrev LH {A0 A1 A2 A3 A4:Type}(fix mod:List Nat) (vals:A0->A1->A2->A3->A4->List Value):Type:=Nat->A0->A1->A2->A3->A4->AH->Prop
theorem Mk {A0 A1 A2 A3 A4:Type}{fix mod:List Nat}{vals:A0->A1->A2->A3->A4->List Value}{J:LH fix mod vals}{m0:Nat}{a0:A0}{a1:A1}{a2:A2}{a3:A3}{a4:A4}{R:Nat->A0->A1->A2->A3->A4->AH->Prop}{T:Prop}(E:T) (H:J m0 a0 a1 a2 a3 a4 h/\∀m x0 x1 x2 x3 x4 h,J m x0 x1 x2 x3 x4 h->R m x0 x1 x2 x3 x4 h) (K:∀m x0 x1 x2 x3 x4 h G g,((∀{F h x0 x1 x2 x3 x4},(∃m',m' < m/\J m' x0 x1 x2 x3 x4 h)->EG c fix mod g F h (vals x0 x1 x2 x3 x4))/\T)->R m x0 x1 x2 x3 x4 h->CF P N rs Q (GT c g h (E2 c fix mod (vals x0 x1 x2 x3 x4) G))) (hh:FD c=Y h:=by kernel_rfl) (hF:bw mod (xR c)=fp (vals a0 a1 a2 a3 a4):=by kernel_rfl):CF P N rs Q c:=
 HE (ι:=A0×A1×A2×A3×A4) fix mod (λx=>vals x.1 x.2.1 x.2.2.1 x.2.2.2.1 x.2.2.2.2) (λm x h=>J m x.1 x.2.1 x.2.2.1 x.2.2.2.1 x.2.2.2.2 h) (x0:=(a0,a1,a2,a3,a4)) H.1 (λm x h G g e hJ=>K m x.1 x.2.1 x.2.2.1 x.2.2.2.1 x.2.2.2.2 h G g ⟨fun {F h x0 x1 x2 x3 x4}=>e F h (x0,x1,x2,x3,x4),E⟩ (H.2 m x.1 x.2.1 x.2.2.1 x.2.2.2.1 x.2.2.2.2 h hJ)) hh hF
abbrev LJ {A0 A1 A2 A3 A4 A5 A6:Type}(fix mod:List Nat) (vals:A0->A1->A2->A3->A4->A5->A6->List Value):Type:=Nat->A0->A1->A2->A3->A4->A5->A6->AH->Prop
theorem Ml {A0 A1 A2 A3 A4 A5 A6:Type}{fix mod:List Nat}{vals:A0->A1->A2->A3->A4->A5->A6->List Value}{J:LJ fix mod vals}{m0:Nat}{a0:A0}{a1:A1}{a2:A2}{a3:A3}{a4:A4}{a5:A5}{a6:A6}{R:Nat->A0->A1->A2->A3->A4->A5->A6->AH->Prop}{T:Prop}(E:T) (H:J m0 a0 a1 a2 a3 a4 a5 a6 h/\∀m x0 x1 x2 x3 x4 x5 x6 h,J m x0 x1 x2 x3 x4 x5 x6 h->R m x0 x1 x2 x3 x4 x5 x6 h) (K:∀m x0 x1 x2 x3 x4 x5 x6 h G g,((∀{F h x0 x1 x2 x3 x4 x5 x6},(∃m',m' < m/\J m' x0 x1 x2 x3 x4 x5 x6 h)->EG c fix mod g F h (vals x0 x1 x2 x3 x4 x5 x6))/\T)->R m x0 x1 x2 x3 x4 x5 x6 h->CF P N rs Q (GT c g h (E2 c fix mod (vals x0 x1 x2 x3 x4 x5 x6) G))) (hh:FD c=Y h:=by kernel_rfl) (hF:bw mod (xR c)=fp (vals a0 a1 a2 a3 a4 a5 a6):=by kernel_rfl):CF P N rs Q c:=
 HE (ι:=A0×A1×A2×A3×A4×A5×A6) fix mod (λx=>vals x.1 x.2.1 x.2.2.1 x.2.2.2.1 x.2.2.2.2.1 x.2.2.2.2.2.1 x.2.2.2.2.2.2) (λm x h=>J m x.1 x.2.1 x.2.2.1 x.2.2.2.1 x.2.2.2.2.1 x.2.2.2.2.2.1 x.2.2.2.2.2.2 h) (x0:=(a0,a1,a2,a3,a4,a5,a6)) H.1 (λm x h G g e hJ=>K m x.1 x.2.1 x.2.2.1 x.2.2.2.1 x.2.2.2.2.1 x.2.2.2.2.2.1 x.2.2.2.2.2.2 h G g ⟨fun {F h x0 x1 x2 x3 x4 x5 x6}=>e F h (x0,x1,x2,x3,x4,x5,x6),E⟩ (H.2 m x.1 x.2.1 x.2.2.1 x.2.2.2.1 x.2.2.2.2.1 x.2.2.2.2.2.1 x.2.2.2.2.2.2 h hJ)) hh hF
theorem wk (fn:Func) (N:Nat) (rs:List ResultVar){g:FuncId}{args:List Value}{C:Prop}(H:C) (hf:P.funcs[g]? = Y fn) (K:C->CF P N rs Q (.code (GO fn) [] (aF args) h):=by
  clear H;intro H;have E:=True.intro
  repeat' first
   | with_reducible exact bu (fin H)
   | with_reducible exact False.elim H
   | with_reducible exact bu (rE (E.1 H (by kernel_rfl) (by kernel_rfl)))
   | with_reducible exact bu (rE (E.2.1 H (by kernel_rfl) (by kernel_rfl)))
   | with_reducible exact bu (rE (E.2.2.1 H (by kernel_rfl) (by kernel_rfl)))
   | with_reducible exact bu (rE (E.2.2.2.1 H (by kernel_rfl) (by kernel_rfl)))
   | with_reducible exact bu (rE (E.2.2.2.2.1 H (by kernel_rfl) (by kernel_rfl)))
   | with_reducible exact bu (rE (E.2.2.2.2.2.1 H (by kernel_rfl) (by kernel_rfl)))
   | with_reducible exact bu (rE (E.2.2.2.2.2.2.1 H (by kernel_rfl) (by kernel_rfl)))
   | (with_reducible refine L5 H ?_;clear H;intro _ H)
   | (with_reducible refine bu (LY H ?_);clear H;intro H)
   | (with_reducible refine bu (L2 H ?_);clear H;intro H)
   | (with_reducible refine bu (LX H ?_);clear H;intro H)
   | (with_reducible refine bu (L0 H ?_);clear H;intro H)
   | (with_reducible refine bu (L3 H ?_);clear H;intro H)
   | (with_reducible refine L4 H ?_;clear H;intro H)
   | (with_reducible refine KQ H ?_;clear H;intro e H;cases e)
   | (with_reducible refine bu (wr H ?_);clear H;intro H)
   | (with_reducible refine bu (qo H ?_);clear H;intro H)
   | (with_reducible refine bu (lu H ?_);clear H;intro H)
   | (with_reducible refine bu (vx H ?_);clear H;intro H)
   | (with_reducible refine bu (mk H ?_);clear H;intro _ _ H)
   | (with_reducible refine bu (LF H ?_);clear H;intro _ _ H)
   | (with_reducible refine bu (nw H ?_);clear H;intro _ _ H)
   | (with_reducible refine bu (ca H ?_);clear H;intro _ _ H)
   | (with_reducible refine bu (fc H ?_);clear H;intro _ _ H)
   | (with_reducible refine bu (ix H ?_);clear H;intro H)
   | (with_reducible refine L7 H ?_ ?_ <;>(clear H;intro e H;cases e))
   | (with_reducible refine L8 H ?_ ?_ <;>(clear H;intro e H;cases e))
   | (with_reducible refine L9 H ?_ ?_;(clear H;intro e H;cases e);rotate_left;(clear H;intro _ _ e H;cases e);rotate_left)
   | (with_reducible refine bu (ts H ?_ ?_) <;>(clear H;intro H))
   | (with_reducible refine L6 H ?_;clear H;intro e H;cases e)
   | (with_reducible refine bu (Ma E H ?_);clear E H;intro _ _ _ _ E H)
   | (with_reducible refine bu (Mc E H ?_);clear E H;intro _ _ _ _ _ E H)
   | (with_reducible refine bu (Mf E H ?_);clear E H;intro _ _ _ _ _ _ E H)
   | (with_reducible refine bu (Mi E H ?_);clear E H;intro _ _ _ _ _ _ _ E H)
   | (with_reducible refine bu (Mj E H ?_);clear E H;intro _ _ _ _ _ _ _ _ E H)
   | (with_reducible refine bu (Mk E H ?_);clear E H;intro _ _ _ _ _ _ _ _ _ E H)
   | (with_reducible refine bu (Ml E H ?_);clear E H;intro _ _ _ _ _ _ _ _ _ _ _ E H)
   | (with_reducible refine Mb E H ?_ ?_;(clear E H;intro _ _ E H);rotate_left;(clear E H;intro _ E H);rotate_left)
   | (with_reducible refine Me E H ?_ ?_;(clear E H;intro _ _ _ E H);rotate_left;(clear E H;intro _ E H);rotate_left)
   | (with_reducible refine Mh E H ?_ ?_;(clear E H;intro _ _ _ _ E H);rotate_left;(clear E H;intro _ E H);rotate_left))
  (ho:Eva.orc g args h=none:=by kernel_rfl) (hb:fn.body=Y (GO fn):=by kernel_rfl) (hn:Nat.ble args.length fn.ntmps=true:=by kernel_rfl) (hN:fn.ntmps=N:=by kernel_rfl) (hrs:fn.results.toList=rs:=by kernel_rfl):WC P g args h Q:=by
 refine WC.enter ho hf hb (Nat.le_of_ble_eq_true hn) ((K H ⟨fn.ntmps,frame 0 args .nil⟩ ⟨hN,?_⟩).mono λe fr' h'=>?_)
 .funext k
  show(frame 0 args .nil).get k=_;rw[qi,if_pos (Nat.zero_le _),Nat.sub_zero,Tr.get_nil];cases aF args k <;>rfl
 .rintro⟨F',hs',q⟩;cases e with
  | exit i=>exact q.elim
  | normal=>
   obtain⟨vs,h1,h2⟩:=q;exact⟨vs,by rw[hrs];exact h1.ok hs',h2⟩
  | ret=>
   obtain⟨vs,h1,h2⟩:=q;exact⟨vs,by rw[hrs];exact h1.ok hs',h2⟩
end
end
end Eva
end
section
open Go Go.RowKit
namespace Eva
abbrev CL (g:FuncId) (args:List Value) (h:AH) (R:Value->AH->Prop):Prop:=WC Tryz.prog g args h R
abbrev CU (g:FuncId) (args:List Value) (h:AH) (R:AH->Prop):Prop:=CL g args h λv h2=>v = .tuple #[]/\R h2
abbrev CB (g:FuncId) (args:List Value) (h:AH) (R:Bool->AH->Prop):Prop:=CL g args h λv h2=>∃b,v = .bool b/\R b h2
abbrev CI (g:FuncId) (args:List Value) (h:AH) (R:Int->AH->Prop):Prop:=CL g args h λv h2=>∃x,v = .int .i64 x/\R x h2
abbrev CP (g:FuncId) (args:List Value) (h:AH) (R:Option Addr->AH->Prop):Prop:=CL g args h λv h2=>∃p,v = .pointer p/\R p h2
abbrev CS (g:FuncId) (args:List Value) (h:AH) (R:Option Addr->Nat->Nat->AH->Prop):Prop:=CL g args h λv h2=>∃A n K,v = ψ A n K/\R A n K h2
end Eva
end
end Go.Proofs.YtaagdjkinbemcaaGreatDoor
