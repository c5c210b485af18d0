/-
A part of the proof of TopShut: lemmas that the last text joins. No condition.
-/
import Derived.Test.YteffnclboadalaaGreatDoorPb
import Derived.KernelRfl
import Derived.Test.YteffnclboadalaaGreatDoorProg
namespace Go.Proofs.YteffnclboadalaaGreatDoor
set_option linter.unusedVariables false
set_option linter.unusedSimpArgs false
set_option linter.unusedSectionVars false
set_option linter.unnecessarySimpa false
section
open Go Go.RowKit
namespace Eva
structure Sees (N:Nat) (F:FF) (fr:Fr):Prop where
 n:fr.n=N
 get:fr.get=F
noncomputable section
def ldC (h:AH) (b o:Nat):Option Value:=
 match cellsAt h b with
 | some (c,_,_)=>c[o]?
 | none=>none
def ldN (h:AH) (b o n:Nat):Option (List Value):=
 match cellsAt h b with
 | some (c,_,_)=>cutL c o n
 | none=>none
def stC (h:AH) (b o:Nat) (vs:List Value):Option AH:=storeA h ⟨b,o,none⟩ vs
def ifaceV:Option (Nat × Value)→Value
 | none=>.nilIface
 | some (t,v)=>.iface t v
def cbody (fn:Func):Code:=fn.body.getD .skip
def ldV (P:Program) (t:TypeId) (h:AH) (b o:Nat):Option Value:=vLoad P t (.pointer (some ⟨b,o,none⟩)) h
def formT (P:Program) (t:TypeId):Option (Option Nat):=
 match P.underlying t,P.info? t with
 | some d,some i=>some (cond (isAggD d) (some i.size) none)
 | _,_=>none
theorem ldV1 {P:Program} {t:TypeId} {h:AH} {b o:Nat} {v:Value} (ht:formT P t=some none) (hl:ldC h b o=some v):ldV P t h b o=some v:=by
 unfold ldV vLoad ldC at *
 simp only
 split at hl
 ·rename_i c e f hc
  rw [hc]
  simp only
  unfold formT at ht
  unfold partOf
  split at ht
  ·rename_i dd i h1 h2
   simp only [h1,h2]
   unfold partD
   cases ha:isAggD dd with
   | true=>rw [ha] at ht; cases ht
   | false=>exact hl
  ·cases ht
 ·cases hl
theorem ldVn {P:Program} {t:TypeId} {h:AH} {b o n:Nat} {c:List Value} (ht:formT P t=some (some n)) (hl:ldN h b o n=some c):ldV P t h b o=some (.agg c.toArray):=by
 unfold ldV vLoad ldN at *
 simp only
 split at hl
 ·rename_i c' e f hc
  rw [hc]
  simp only
  unfold formT at ht
  unfold partOf
  split at ht
  ·rename_i dd i h1 h2
   simp only [h1,h2]
   unfold partD
   cases ha:isAggD dd with
   | false=>rw [ha] at ht; cases ht
   | true=>
    rw [ha] at ht
    injection ht with ht; injection ht with ht
    simp only [cond_true]
    rw [ht,hl]; rfl
  ·cases ht
 ·cases hl
def V (P:Program) (N:Nat) (c:Code) (F:FF) (h:AH) (Q:Out→FF→AH→Prop):Prop:=
 ∀ fr,Sees N F fr→W P c fr h (fun e fr' h'=>∃ F',Sees N F' fr'∧Q e F' h')
def VD (P:Program) (N:Nat) (ops:Array Oper) (l:List (Nat × List Nat)) (F:FF) (h:AH) (Q:FF→AH→Prop):Prop:=
 ∀ fr,Sees N F fr→WD P ops l fr h (fun fr' h'=>∃ F',Sees N F' fr'∧Q F' h')
def AG (P:Program) (ops:Array Oper) (F:FF) (h:AH) (again:List Nat):Prop:=allL (sameAgainF P ops F h) again=true
def putF (F:FF):Option Tmp→Value→FF
 | some d,v=>F.put d v
 | none,_=>F
inductive ResF (P:Program) (F:FF) (h:AH):List ResultVar→List Value→Prop
 | nil:ResF P F h [] []
 | tmp {t:Nat} {v:Value} {l:List ResultVar} {vs:List Value}:F t=some v→ResF P F h l vs→ResF P F h (.tmp t :: l) (v :: vs)
 | cell {a t b o:Nat} {v:Value} {l:List ResultVar} {vs:List Value}:F a=some (.pointer (some ⟨b,o,none⟩))→ldV P t h b o=some v→ResF P F h l vs→ResF P F h (.cell a t :: l) (v :: vs)
theorem ResF.ok {P:Program} {N:Nat} {F:FF} {h:AH} {fr:Fr} (hs:Sees N F fr) {l:List ResultVar} {vs:List Value} (hr:ResF P F h l vs):resA P fr h l=some vs:=by
 induction hr with
 | nil=>rfl
 | @tmp t v l vs hF _ ih=>
  show (resA P fr h l).map (orUndef (fr.get t) :: ·)=_
  rw [ih,hs.get,hF]; rfl
 | @cell a t b o v l vs hF hl _ ih=>
  show resC P t h (orUndef (fr.get a)) (resA P fr h l)=_
  rw [ih,hs.get,hF]
  unfold resC
  have:vLoad P t (orUndef (some (.pointer (some ⟨b,o,none⟩)))) h=some v:=hl
  rw [this]
inductive SF where
 | next (c:Code)
 | blk (id:Nat)
 | rnd (g:FF→AH→Prop)
inductive Cfg where
 | code (c:Code) (k:List SF) (F:FF) (h:AH)
 | ops (o:Array Oper) (l:List (Nat × List Nat)) (k:List SF) (F:FF) (h:AH)
 | chk (o:Array Oper) (a:List Nat) (l:List (Nat × List Nat)) (k:List SF) (F:FF) (h:AH)
 | out (e:Out) (k:List SF) (F:FF) (h:AH)
 | res (l:List ResultVar) (acc:List Value) (F:FF) (h:AH)
 | bad
section
variable (P:Program) (N:Nat) (rs:List ResultVar) (Q:Value→AH→Prop)
def stkN (n s:FF→AH→Prop):Out→FF→AH→Prop
 | .normal=>n
 | _=>s
def stk:List SF→Out→FF→AH→Prop
 | [],.exit _,_,_=>False
 | [],_,F,h=>∃ vs,ResF P F h rs vs∧Q (one vs) h
 | .next b :: k,.normal,F,h=>V P N b F h (stk k)
 | .next _ :: k,e,F,h=>stk k e F h
 | .blk id :: k,.exit i,F,h=>cond (Nat.beq i id) (stk k .normal F h) (stk k (.exit i) F h)
 | .blk _ :: k,e,F,h=>stk k e F h
 | .rnd g :: _,.normal,F,h=>g F h
 | .rnd _ :: k,e,F,h=>stk k e F h
def CF:Cfg→Prop
 | .code c k F h=>V P N c F h (stk P N rs Q k)
 | .ops o l k F h=>VD P N o l F h (fun F h=>stk P N rs Q k .normal F h)
 | .chk o a l k F h=>AG P o F h a∧VD P N o l F h (fun F h=>stk P N rs Q k .normal F h)
 | .out e k F h=>stk P N rs Q k e F h
 | .res l acc F h=>∃ vs,ResF P F h l vs∧Q (one (acc ++ vs)) h
 | .bad=>False
def boolM (a b:Cfg):Value→Option Cfg
 | .bool true=>some a
 | .bool false=>some b
 | _=>none
def planM (ops:Array Oper) (k:List SF) (F:FF) (h:AH):Option (List (Nat × List Nat))→Option Cfg
 | some l=>some (.ops ops l k F h)
 | none=>none
def regM (k:List SF) (F:FF) (h:AH) (ops:Array Oper):Bool→Option Cfg
 | true=>planM ops k F h (planOk P ops)
 | false=>some (.ops ops ((List.range ops.size).map fun j=>(j,[])) k F h)
def codeM (k:List SF) (F:FF) (h:AH):Code→Option Cfg
 | .seq a b=>some (.code a (.next b :: k) F h)
 | .block id b=>some (.code b (.blk id :: k) F h)
 | .scope b=>some (.code b k F h)
 | .skip=>some (.out .normal k F h)
 | .label _=>some (.out .normal k F h)
 | .exit id=>some (.out (.exit id) k F h)
 | .ret=>some (.out .ret k F h)
 | .region _ ops d=>regM P k F h ops d
 | .cond x a b=>cond (constOk x) (boolM (.code a k F h) (.code b k F h) (evF F x)) none
 | _=>none
def outM (F:FF) (h:AH) (e:Out):List SF→Option Cfg
 | []=>match e with
  | .exit _=>none
  | _=>some (.res rs [] F h)
 | .next b :: k=>match e with
  | .normal=>some (.code b k F h)
  | e=>some (.out e k F h)
 | .blk id :: k=>match e with
  | .exit i=>some (cond (Nat.beq i id) (.out .normal k F h) (.out (.exit i) k F h))
  | e=>some (.out e k F h)
 | .rnd _ :: k=>match e with
  | .normal=>none
  | e=>some (.out e k F h)
def notInt:Value→Bool
 | .int _ _=>false
 | _=>true
def notMap:Option Value→Bool
 | some (.map _)=>false
 | _=>true
def quiet (F:FF) (o:Oper):Bool:=
 match o.op with
 | .move _ | .pick _ _ _ | .nilCheck _ | .fieldAddr _ _ _ | .field _ _ _ | .extract _ _ | .makeFunc _ _ _ | .makeInterface _ _ | .build _ _=>true
 | .binOp _ _ x _ _=>notInt (evF F x)
 | .unOp _ _ x=>notInt (evF F x)
 | .call c=>match c.callee with
  | .builtin .len=>notMap (arg1F c F)
  | _=>false
 | _=>false
def inN:Option Tmp→Bool
 | some d=>Nat.blt d N
 | none=>true
def goF (ops:Array Oper) (F:FF) (o:Oper):Bool:=cond (wantF ops F o) (constsOk o) false
def putD (ops:Array Oper) (a:List Nat) (l:List (Nat × List Nat)) (k:List SF) (F:FF) (h:AH) (d:Option Tmp):Option Value→Option Cfg
 | some v=>cond (inN N d) (some (.chk ops a l k (putF F d v) h)) none
 | none=>none
def opM (ops:Array Oper) (a:List Nat) (l:List (Nat × List Nat)) (k:List SF) (F:FF) (h:AH) (o:Oper):Option Cfg:=
 cond (wantF ops F o)
  (cond (constsOk o)
   (match o.op with
   | .assign x=>cond (inN N o.dst) (some (.ops ops l k (putF F o.dst (evF F x)) h)) none
   | _=>cond (quiet F o) (putD N ops a l k F h o.dst (evVF P o F h)) none) none)
  (cond (inN N o.dst) (some (.ops ops l k (putF F o.dst undef) h)) none)
def chkM (ops:Array Oper) (a:List Nat) (l:List (Nat × List Nat)) (k:List SF) (F:FF) (h:AH):Option Oper→Option Cfg
 | some o=>cond (looks P o.op && wantF ops F o) none (some (.chk ops a l k F h))
 | none=>none
def tmpM (l:List ResultVar) (acc:List Value) (F:FF) (h:AH):Option Value→Option Cfg
 | some v=>some (.res l (acc ++ [v]) F h)
 | none=>none
def stepM:Cfg→Option Cfg
 | .code c k F h=>codeM P k F h c
 | .ops _ [] k F h=>some (.out .normal k F h)
 | .ops ops ((j,a) :: l) k F h=>match ops[j]? with
  | some o=>opM P N ops a l k F h o
  | none=>none
 | .chk ops [] l k F h=>some (.ops ops l k F h)
 | .chk ops (i :: a) l k F h=>chkM P ops a l k F h ops[i]?
 | .out e k F h=>outM rs F h e k
 | .res (.tmp t :: l) acc F h=>tmpM l acc F h (F t)
 | _=>none
def runS (c:Cfg) (ih:Cfg→Cfg):Option Cfg→Cfg
 | some c'=>ih c'
 | none=>c
def runN (n:Nat):Cfg→Cfg:=Nat.rec (motive:=fun _=>Cfg→Cfg) (fun c=>c) (fun _ ih c=>runS c ih (stepM P N rs c)) n
def rn (c:Cfg):Cfg:=runN P N rs 1000 c
def goM (c:Cfg) (v:Value) (h':AH):Cfg:=
 match c with
 | .ops ops ((j,a) :: l) k F _=>match ops[j]? with
  | some o=>cond (inN N o.dst) (.chk ops a l k (putF F o.dst v) h') .bad
  | none=>.bad
 | .chk ops (_ :: a) l k F h=>.chk ops a l k F h
 | .res (_ :: l) acc F h=>.res l (acc ++ [v]) F h
 | _=>.bad
def atOp:Cfg→Option (Array Oper × Oper × FF × AH)
 | .ops ops ((j,_) :: _) _ F h=>match ops[j]? with
  | some o=>cond (goF ops F o) (some (ops,o,F,h)) none
  | none=>none
 | _=>none
def hpM:Cfg→AH
 | .code _ _ _ h | .ops _ _ _ _ h | .chk _ _ _ _ _ h | .out _ _ _ h | .res _ _ _ h=>h
 | .bad=>⟨0,.nil⟩
def frM:Cfg→FF
 | .code _ _ F _ | .ops _ _ _ F _ | .chk _ _ _ _ F _ | .out _ _ F _ | .res _ _ F _=>F
 | .bad=>fun _=>none
def goV (c:Cfg) (v:Value):Cfg:=goM N c v (hpM c)
end
section
variable {P:Program} {N:Nat} {rs:List ResultVar} {Q:Value→AH→Prop} {ops:Array Oper} {F:FF} {h:AH} {l:List (Nat × List Nat)} {j:Nat} {a:List Nat}
theorem Sees.put {fr:Fr} (hs:Sees N F fr) {d:Option Tmp} (hd:inN N d=true) (v:Value):Sees N (putF F d v) (putA fr d v):=by
 cases d with
 | none=>exact hs
 | some d=>
  have hlt:d<fr.n:=by
   rw [hs.n,← Nat.blt_eq]
   exact hd
  refine ⟨by rw [putA_n]; exact hs.n,?_⟩
  funext k
  show (fr.put d v).get k=cond (Nat.beq k d) (some v) (F k)
  by_cases e:k=d
  ·subst e
   rw [put_get_same hlt,Nat.beq_refl]; rfl
  ·have hb:Nat.beq k d=false:=by
    cases hb:Nat.beq k d with
    | false=>rfl
    | true=>exact absurd (beq_eq hb) e
   rw [put_get_ne e,hb]
   exact congrFun hs.get k
theorem goF_split {o:Oper} (hg:goF ops F o=true):wantF ops F o=true∧constsOk o=true:=by
 unfold goF at hg
 cases hw:wantF ops F o with
 | false=>rw [hw] at hg; cases hg
 | true=>rw [hw] at hg; exact ⟨rfl,hg⟩
theorem VD.step {K:FF→AH→Prop} {o:Oper} {v:Value} {h':AH} (ho:ops[j]? = some o) (hd:inN N o.dst=true) (hop:∀ fr:Fr,fr.get=F→W1 P ops o fr h (fun fr' h2=>fr' = putA fr o.dst v∧h2=h')) (ag:(wantF ops F o && !(isAsg o.op))=true→AG P ops (putF F o.dst v) h' a)
  (hK:VD P N ops l (putF F o.dst v) h' K):VD P N ops ((j,a) :: l) F h K:=by
 intro fr hs
 obtain ⟨n,fr',h2,ha,rfl,rfl⟩:=hop fr hs.get
 refine WD.op ho ⟨n,_,_,ha,?_,hK _ (hs.put hd v)⟩
 have hsee:=hs.put hd v
 unfold agn
 rw [want_F,hs.get]
 cases hz:(wantF ops F o && !(isAsg o.op)) with
 | false=>rfl
 | true=>
  have ag:=ag hz
  unfold AG at ag
  rw [← hsee.get] at ag
  exact ag
theorem op_val {o:Oper} {v:Value} (hk:kindOf P o = .val) (hg:goF ops F o=true) (hv:evVF P o F h=some v):∀ fr:Fr,fr.get=F→W1 P ops o fr h (fun fr' h2=>fr' = putA fr o.dst v∧h2=h):=fun fr hfr=>by
 obtain ⟨hw,hc⟩:=goF_split hg
 refine W1.wanted (by rw [want_F,hfr]; exact hw) (W1.val rfl hc hk ?_ ⟨rfl,rfl⟩)
 show evV P o fr h=_
 rw [evV_F,hfr]; exact hv
theorem op_lay {o:Oper} {ao:AO} {f:Nat→Value} (hk:kindOf P o = .lay) (hg:goF ops F o=true) (hv:evAF P o F=some (ao,f)):∀ fr:Fr,fr.get=F→W1 P ops o fr h (fun fr' h2=>fr' = putA fr o.dst (f h.next)∧h2=h.new ao):=fun fr hfr=>by
 obtain ⟨hw,hc⟩:=goF_split hg
 refine W1.wanted (by rw [want_F,hfr]; exact hw) (W1.lay (b:=ao) (f:=f) rfl hc hk ?_ ⟨rfl,rfl⟩)
 show evA P o fr=_
 rw [evA_F,hfr]; exact hv
theorem op_loud {o:Oper} {v:Value} {h':AH} (hk:kindOf P o = .loud) (hg:goF ops F o=true) (hv:evLF P o F h=some (v,h')):∀ fr:Fr,fr.get=F→W1 P ops o fr h (fun fr' h2=>fr' = putA fr o.dst v∧h2=h'):=fun fr hfr=>by
 obtain ⟨hw,hc⟩:=goF_split hg
 refine W1.wanted (by rw [want_F,hfr]; exact hw) (W1.loud rfl hc hk ?_ ⟨rfl,rfl⟩)
 show evL P o fr h=_
 rw [evL_F,hfr]; exact hv
theorem op_un {o:Oper} (hw:wantF ops F o=false):∀ fr:Fr,fr.get=F→W1 P ops o fr h (fun fr' h2=>fr' = putA fr o.dst undef∧h2=h):=fun fr hfr=>
 W1.unwanted (by rw [want_F,hfr]; exact hw) ⟨rfl,rfl⟩
theorem AG.cons {i:Nat} (h1:sameAgainF P ops F h i=true) (h2:AG P ops F h a):AG P ops F h (i :: a):=by
 unfold AG allL at *
 simp only [h1,cond_true]
 exact h2
theorem WD.of_list {ops:Array Oper} {Q:Fr→AH→Prop}:∀ (m i:Nat) {fr:Fr} {h:AH},i+m=ops.size→WD P ops ((List.range' i m).map fun j=>(j,[])) fr h Q→WO P ops (ops.toList.drop i) fr h Q
 | 0,i,fr,h,hi,hw=>by
  obtain ⟨n,fr',h',ha,q⟩:=hw
  have hd:ops.toList.drop i = []:=List.drop_eq_nil_of_le (by simp; omega)
  rw [hd]
  cases ha
  exact WO.nil q
 | m+1,i,fr,h,hi,hw=>by
  obtain ⟨n,fr',h',ha,q⟩:=hw
  have hlt:i<ops.size:=by omega
  have hd:ops.toList.drop i=ops[i] :: ops.toList.drop (i+1):=by
   rw [List.drop_eq_getElem_cons (by simpa using hlt)]
   simp
  have hg:ops[i]? = some ops[i]:=Array.getElem?_eq_getElem hlt
  rw [hd]
  have ha':drawnAt P (callsO P (codeO P n)) ops i [] (drawn P (callsO P (codeO P n)) ops ((List.range' (i+1) m).map fun j=>(j,[]))) fr h=some (fr',h'):=ha
  unfold drawnAt at ha'
  rw [hg] at ha'
  simp only at ha'
  cases h1:op1 P (callsO P (codeO P n)) ops ops[i] fr h with
  | none=>rw [h1] at ha'; cases ha'
  | some fh=>
   obtain ⟨fr1,hh1⟩:=fh
   rw [h1,agn_nil] at ha'
   have ha2:drawn P (callsO P (codeO P n)) ops ((List.range' (i+1) m).map fun j=>(j,[])) fr1 hh1=some (fr',h'):=ha'
   exact WO.cons ⟨n,fr1,hh1,h1,WD.of_list m (i+1) (by omega) ⟨n,fr',h',ha2,q⟩⟩
theorem codeM_ok {c:Code} {c':Cfg} {k:List SF} (hs:codeM P k F h c=some c') (K:CF P N rs Q c'):CF P N rs Q (.code c k F h):=by
 cases c with
 | seq a b=>
  cases hs
  intro fr hs
  refine W.seq ((K fr hs).mono fun e fr' h'=>?_)
  rintro ⟨F',hs',q⟩
  cases e with
  | normal=>exact q fr' hs'
  | exit i=>exact ⟨F',hs',q⟩
  | ret=>exact ⟨F',hs',q⟩
 | block i b=>
  cases hs
  intro fr hs
  refine W.block ((K fr hs).mono fun e fr' h'=>?_)
  rintro ⟨F',hs',q⟩
  cases e with
  | normal=>exact ⟨F',hs',q⟩
  | exit j=>
   have q':cond (Nat.beq j i) (stk P N rs Q k .normal F' h') (stk P N rs Q k (.exit j) F' h'):=q
   by_cases e:j=i
   ·subst e
    rw [Nat.beq_refl] at q'
    simp only [blockW,if_pos rfl]
    exact ⟨F',hs',q'⟩
   ·have hb:Nat.beq j i=false:=by
     cases hb:Nat.beq j i with
     | false=>rfl
     | true=>exact absurd (beq_eq hb) e
    rw [hb] at q'
    simp only [blockW,if_neg e]
    exact ⟨F',hs',q'⟩
  | ret=>exact ⟨F',hs',q⟩
 | scope b=>cases hs; exact fun fr hs=>W.scope (K fr hs)
 | skip=>cases hs; exact fun fr hs=>W.skip ⟨F,hs,K⟩
 | label l=>cases hs; exact fun fr hs=>W.label ⟨F,hs,K⟩
 | exit i=>cases hs; exact fun fr hs=>W.exit ⟨F,hs,K⟩
 | ret=>cases hs; exact fun fr hs=>W.ret ⟨F,hs,K⟩
 | region i ops dr=>
  cases dr with
  | true=>
   have hs':planM ops k F h (planOk P ops)=some c':=hs
   cases hp:planOk P ops with
   | none=>rw [hp] at hs'; cases hs'
   | some l=>
    rw [hp] at hs'
    cases hs'
    exact fun fr hs=>W.regionD hp (K fr hs)
  | false=>
   cases hs
   intro fr hs
   refine W.region ?_
   have h1:WD P ops ((List.range ops.size).map fun j=>(j,[])) fr h (fun fr' h'=>∃ F',Sees N F' fr'∧stk P N rs Q k .normal F' h'):=K fr hs
   rw [List.range_eq_range'] at h1
   have h2:=WD.of_list (P:=P) ops.size 0 (Nat.zero_add _) h1
   rwa [List.drop_zero] at h2
 | cond x a b=>
  intro fr hf
  have hs':cond (constOk x) (boolM (.code a k F h) (.code b k F h) (evF F x)) none=some c':=hs
  obtain ⟨hx,hs'⟩:=cond_some hs'
  have he:ev fr x=evF F x:=by rw [ev_F,hf.get]
  unfold boolM at hs'
  split at hs'
  ·rename_i ht
   cases hs'
   exact W.cond hx (he.trans ht) (fun _=>K fr hf) (fun h=>by cases h)
  ·rename_i ht
   cases hs'
   exact W.cond hx (he.trans ht) (fun h=>by cases h) (fun _=>K fr hf)
  ·cases hs'
 | _=>cases hs
theorem outM_ok {e:Out} {c':Cfg} {k:List SF} (hs:outM rs F h e k=some c') (K:CF P N rs Q c'):CF P N rs Q (.out e k F h):=by
 cases k with
 | nil=>cases e <;> cases hs <;> exact K
 | cons s k=>
  cases s with
  | next b=>cases e <;> cases hs <;> exact K
  | rnd g=>cases e <;> cases hs <;> exact K
  | blk id=>
   cases e with
   | exit i=>
    injection hs with hs
    subst hs
    show cond (Nat.beq i id) (stk P N rs Q k .normal F h) (stk P N rs Q k (.exit i) F h)
    cases hb:Nat.beq i id <;> rw [hb] at K <;> exact K
   | normal=>cases hs; exact K
   | ret=>cases hs; exact K
theorem quiet_val {o:Oper} (hq:quiet F o=true):kindOf P o = .val∧isAsg o.op=false:=by
 unfold quiet at hq
 unfold kindOf isAsg
 split at hq <;> first | (rename_i ho; rw [ho]; exact ⟨rfl,rfl⟩) | skip
 ·rename_i c ho
  rw [ho]
  refine ⟨?_,rfl⟩
  simp only
  split at hq
  ·rename_i hc; rw [hc]
  ·cases hq
 ·cases hq
theorem opM_ok {o:Oper} {c':Cfg} {k:List SF} (ho:ops[j]? = some o) (hs:opM P N ops a l k F h o=some c') (K:CF P N rs Q c'):CF P N rs Q (.ops ops ((j,a) :: l) k F h):=by
 unfold opM at hs
 cases hw:wantF ops F o with
 | false=>
  rw [hw] at hs
  obtain ⟨hd,hs⟩:=cond_some hs
  cases hs
  exact VD.step ho hd (op_un hw) (fun z=>by rw [hw] at z; cases z) K
 | true=>
  rw [hw] at hs
  obtain ⟨hc,hs⟩:=cond_some hs
  have hg:goF ops F o=true:=by unfold goF; rw [hw]; exact hc
  split at hs
  ·rename_i x hop
   obtain ⟨hd,hs⟩:=cond_some hs
   cases hs
   refine VD.step ho hd (op_loud (by unfold kindOf; rw [hop]) hg (by unfold evLF; rw [hop])) (fun z=>?_) K
   rw [hop] at z; simp [isAsg] at z
  ·obtain ⟨hq,hs⟩:=cond_some hs
   unfold putD at hs
   split at hs
   ·rename_i v hv
    obtain ⟨hd,hs⟩:=cond_some hs
    cases hs
    exact VD.step ho hd (op_val (quiet_val hq).1 hg hv) (fun _=>K.1) K.2
   ·cases hs
theorem stepM_ok {c c':Cfg} (hs:stepM P N rs c=some c') (K:CF P N rs Q c'):CF P N rs Q c:=by
 cases c with
 | code c k F h=>exact codeM_ok hs K
 | ops ops l k F h=>
  cases l with
  | nil=>cases hs; exact fun fr hs=>WD.nil ⟨F,hs,K⟩
  | cons p l=>
   obtain ⟨j,a⟩:=p
   have hs':(match ops[j]? with | some o=>opM P N ops a l k F h o | none=>none)=some c':=hs
   split at hs'
   ·rename_i o ho
    exact opM_ok ho hs' K
   ·cases hs'
 | chk ops a l k F h=>
  cases a with
  | nil=>cases hs; exact ⟨rfl,K⟩
  | cons i a=>
   have hs':chkM P ops a l k F h ops[i]? = some c':=hs
   unfold chkM at hs'
   split at hs'
   ·rename_i o ho
    cases hz:(looks P o.op && wantF ops F o) with
    | true=>rw [hz] at hs'; cases hs'
    | false=>
     rw [hz] at hs'
     cases hs'
     refine ⟨AG.cons ?_ K.1,K.2⟩
     unfold sameAgainF
     rw [ho]
     simp only
     cases hl:looks P o.op with
     | false=>rfl
     | true=>rw [hl] at hz; simp only [Bool.true_and] at hz; rw [hz]; rfl
   ·cases hs'
 | out e k F h=>exact outM_ok hs K
 | res l acc F h=>
  cases l with
  | nil=>cases hs
  | cons r l=>
   cases r with
   | cell a t=>cases hs
   | tmp t=>
    have hs':tmpM l acc F h (F t)=some c':=hs
    unfold tmpM at hs'
    split at hs'
    ·rename_i v hv
     cases hs'
     obtain ⟨vs,k1,k2⟩:=K
     exact ⟨v :: vs,.tmp hv k1,by rw [List.append_assoc] at k2; exact k2⟩
    ·cases hs'
 | bad=>cases hs
theorem runN_ok:∀ (n:Nat) (c:Cfg),CF P N rs Q (runN P N rs n c)→CF P N rs Q c
 | 0,c,K=>K
 | n+1,c,K=>by
  have K':CF P N rs Q (runS c (runN P N rs n) (stepM P N rs c)):=K
  unfold runS at K'
  split at K'
  ·rename_i c' hs
   exact stepM_ok hs (runN_ok n c' K')
  ·exact K'
theorem rn_ok {c:Cfg} (K:CF P N rs Q (rn P N rs c)):CF P N rs Q c:=runN_ok _ _ K
theorem go_ok {c:Cfg} {o:Oper} {v:Value} {h':AH} (hc:atOp c=some (ops,o,F,h)) (hop:∀ fr:Fr,fr.get=F→W1 P ops o fr h (fun fr' h2=>fr' = putA fr o.dst v∧h2=h')) (K:CF P N rs Q (goM N c v h')):CF P N rs Q c:=by
 unfold atOp at hc
 split at hc
 ·rename_i ops' j a l k F' h0
  split at hc
  ·rename_i o' ho
   obtain ⟨hg,hc⟩:=cond_some hc
   injection hc with hc
   injection hc with e1 hc
   injection hc with e2 hc
   injection hc with e3 e4
   subst e1 e2 e3 e4
   have K':CF P N rs Q (match ops'[j]? with | some o=>cond (inN N o.dst) (.chk ops' a l k (putF F' o.dst v) h') .bad | none=>.bad):=K
   rw [ho] at K'
   simp only at K'
   cases hd:inN N o'.dst with
   | false=>rw [hd] at K'; exact K'.elim
   | true=>
    rw [hd] at K'
    exact VD.step ho hd hop (fun _=>K'.1) K'.2
  ·cases hc
 ·cases hc
end
end
end Eva
end
section
open Go Go.RowKit
namespace Eva
def EqOkS (ih:Value→Prop):Value→Prop
 | .bool _ | .int _ _ | .string _ | .pointer none | .map _ | .nilFunc | .nilIface=>True
 | .pointer (some a)=>a.spot=none
 | .slice none _ _=>True
 | .slice (some a) _ _=>a.spot=a.spot
 | .iface _ v=>ih v
 | .agg cs | .tuple cs=>∀ v∈cs.toList,ih v
 | .func (.func _) f c=>(∀ v∈f.toList,ih v)∧∀ v∈c.toList,ih v
 | _=>False
def EqOkN:Nat→Value→Prop
 | 0,_=>False
 | n+1,v=>EqOkS (EqOkN n) v
abbrev EqOk (v:Value):Prop:=EqOkN 6 v
theorem all2_self {ih:Value→Value→Bool}:∀ l:List Value,(∀ v∈l,ih v v=true)→all2 ih l l=true
 | [],_=>rfl
 | x :: l,h=>by
  unfold all2
  rw [h x (by simp)]
  exact all2_self l fun v hv=>h v (List.mem_cons_of_mem _ hv)
theorem eqAddr_self (a:Addr):eqAddr a a=true:=by
 unfold eqAddr
 rw [Nat.beq_refl,Nat.beq_refl]
 cases a.spot with
 | none=>rfl
 | some i=>exact Nat.beq_refl i
theorem eqv_self:∀ (n:Nat) {v:Value},EqOkN n v→eqv n v v=true
 | 0,v,h=>h.elim
 | n+1,v,h=>by
  show eqvS (eqv n) v v=true
  cases v with
  | bool b=>simp [eqvS]
  | int k x=>simp [eqvS]
  | string s=>simp [eqvS]
  | pointer p=>
   cases p with
   | none=>rfl
   | some a=>exact eqAddr_self a
  | slice a l c=>
   cases a with
   | none=>simp [eqvS,Nat.beq_refl]
   | some a=>simp [eqvS,Nat.beq_refl]; exact eqAddr_self a
  | map r=>cases r <;> simp [eqvS,Nat.beq_refl]
  | nilFunc=>rfl
  | nilIface=>rfl
  | iface t u=>simp only [eqvS,Nat.beq_refl,Bool.true_and]; exact eqv_self n h
  | agg cs=>exact all2_self _ fun u hu=>eqv_self n (h u hu)
  | tuple cs=>exact all2_self _ fun u hu=>eqv_self n (h u hu)
  | func g f c=>
   cases g with
   | func g=>
    simp only [eqvS,Nat.beq_refl,Bool.true_and]
    rw [all2_self _ fun u hu=>eqv_self n (h.1 u hu),all2_self _ fun u hu=>eqv_self n (h.2 u hu)]; rfl
   | _=>exact h.elim
  | _=>exact h.elim
noncomputable section
def eqB:Value→Bool
 | .bool _ | .int _ _ | .string _ | .pointer none | .map _ | .nilFunc | .nilIface=>true
 | .pointer (some ⟨_,_,none⟩)=>true
 | .slice none _ _=>true
 | .slice (some _) _ _=>true
 | _=>false
theorem eqB_ok {v:Value} (h:eqB v=true):EqOk v:=by
 unfold eqB at h
 split at h <;> first | exact trivial | exact rfl | cases h
def ldP (P:Program) (h:AH) (t:TypeId):Value→Option (AH × Nat × Nat × Option Nat)
 | .pointer (some ⟨b,o,none⟩)=>match formT P t with
  | some f=>some (h,b,o,f)
  | none=>none
 | _=>none
def ldO (P:Program) (F:FF) (h:AH):Op→Option (AH × Nat × Nat × Option Nat)
 | .load t x=>ldP P h t (evF F x)
 | _=>none
def ldM (P:Program):Cfg→Option (AH × Nat × Nat × Option Nat)
 | .chk ops (i :: _) _ _ F h=>match ops[i]? with
  | some o=>cond (goF ops F o) (ldO P F h o.op) none
  | none=>none
 | .res (.cell a t :: _) _ F h=>match F a with
  | some v=>ldP P h t v
  | none=>none
 | c=>match atOp c with
  | some (_,o,F,h)=>ldO P F h o.op
  | none=>none
def oldM (v:Value):Cfg→Option Value
 | .chk ops (i :: _) _ _ F _=>match ops[i]? with
  | some o=>match o.dst with
   | some d=>F d
   | none=>none
  | none=>none
 | _=>some v
def eqM (v:Value):Cfg→Bool
 | .chk _ _ _ _ _ _=>eqB v
 | _=>true
def stM (P:Program) (c:Cfg):Option (AH × Nat × Nat × List Value):=
 match atOp c with
 | some (_,o,F,h)=>match o.op,o.dst with
  | .store t x v,none=>match P.info? t,evF F x with
   | some i,.pointer (some ⟨b,k,none⟩)=>cond (Nat.beq (evF F v).cells.toList.length i.size) (some (h,b,k,(evF F v).cells.toList)) none
   | _,_=>none
  | _,_=>none
 | none=>none
def luM (P:Program) (c:Cfg):Option (Option VH):=
 match atOp c with
 | some (_,o,F,h)=>match kindOf P o with
  | .loud=>some (evLF P o F h)
  | _=>none
 | none=>none
def vxM (P:Program) (c:Cfg):Option (Option Value):=
 match atOp c with
 | some (_,o,F,h)=>match kindOf P o with
  | .val=>some (evVF P o F h)
  | _=>none
 | none=>none
def intO:Option (Option Value)→Option (IntKind × Int)
 | some (some (.int k t))=>some (k,t)
 | _=>none
def itM (P:Program) (c:Cfg):Option Int:=
 match intO (vxM P c) with
 | some (_,t)=>some t
 | none=>none
def knM (P:Program) (c:Cfg):IntKind:=
 match intO (vxM P c) with
 | some (k,_)=>k
 | none=>.i64
def isQuo:Op→Option (Bool × Operand × Operand)
 | .binOp .quo _ x y _=>some (false,x,y)
 | .binOp .rem _ x y _=>some (true,x,y)
 | _=>none
def quV (rem:Bool) (a b:Value):Option (IntKind × Int × Int):=
 match a,b with
 | .int k a,.int l b=>cond (k == l) (some (k,b,cond rem (Int.tmod a b) (k.wrap (Int.tdiv a b)))) none
 | _,_=>none
def quA (c:Cfg):Option (IntKind × Int × Int):=
 match atOp c with
 | some (_,o,F,_)=>match isQuo o.op with
  | some (r,x,y)=>quV r (evF F x) (evF F y)
  | none=>none
 | none=>none
def quM (c:Cfg):Option (Int × Int):=
 match quA c with
 | some (_,b,t)=>some (b,t)
 | none=>none
def quK (c:Cfg):IntKind:=
 match quA c with
 | some (k,_)=>k
 | none=>.i64
def cmpB (op:BinOp) (a b:Int):Option Bool:=
 match op with
 | .lss=>some (decide (a<b))
 | .leq=>some (decide (a≤b))
 | .gtr=>some (decide (b<a))
 | .geq=>some (decide (b≤a))
 | .eql=>some (a == b)
 | .neq=>some (a == b)
 | _=>none
def cmpV (op:BinOp) (x y:Value):Option Bool:=
 match x,y with
 | .int k a,.int l b=>cond (k == l) (cmpB op a b) none
 | _,_=>none
def isNeq:BinOp→Bool
 | .neq=>true
 | _=>false
def tsM (c:Cfg):Option Bool:=
 match atOp c with
 | some (_,o,F,_)=>match o.op with
  | .binOp op _ x y _=>cmpV op (evF F x) (evF F y)
  | _=>none
 | none=>none
def ngM (c:Cfg):Bool:=
 match atOp c with
 | some (_,o,_,_)=>match o.op with
  | .binOp op _ _ _ _=>isNeq op
  | _=>false
 | none=>false
def ixO (P:Program) (d:Option TypeDesc) (x:Value) (i:Option Nat):Option (Nat × Nat × Nat × Nat × Nat):=
 match d,x,i with
 | some (.slice e),.slice (some ⟨b,o,none⟩) n _,some k=>match P.info? e with
  | some i=>some (b,o,n,k,i.size)
  | none=>none
 | some (.array n e),.pointer (some ⟨b,o,none⟩),some k=>match P.info? e with
  | some i=>some (b,o,n,k,i.size)
  | none=>none
 | _,_,_=>none
def ixA (P:Program) (c:Cfg):Option (Nat × Nat × Nat × Nat × Nat):=
 match atOp c with
 | some (_,o,F,_)=>match o.op with
  | .indexAddr t x ix=>ixO P (P.underlying t) (evF F x) (natOf (evF F ix))
  | _=>none
 | none=>none
def ixM (P:Program) (c:Cfg):Option (Nat × Nat):=
 match ixA P c with
 | some (_,_,n,k,_)=>some (n,k)
 | none=>none
def ixV (P:Program) (c:Cfg):Value:=
 match ixA P c with
 | some (b,o,_,k,s)=>.pointer (some ⟨b,cond (Nat.beq s 1) (o+k) (o+k * s),none⟩)
 | none=>undef
def nwA (P:Program) (c:Cfg):Option (AH × Lay):=
 match atOp c with
 | some (_,o,F,h)=>match kindOf P o with
  | .lay=>match evAF P o F with
   | some b=>some (h,b)
   | none=>none
  | _=>none
 | none=>none
def nwM (P:Program) (c:Cfg):Option (AH × AO):=
 match nwA P c with
 | some (h,b,_)=>some (h,b)
 | none=>none
def nwV (P:Program) (c:Cfg):Value:=
 match nwA P c with
 | some (h,_,f)=>f h.next
 | none=>undef
def zerosOf (e:TypeId):Option TypeInfo→Option (List Value)
 | some i=>match i.zero with
  | some z=>cond (Nat.blt i.bytes 10000 && zeroOk z i.size) (some z.cells.toList) none
  | none=>none
 | none=>none
def mkM (P:Program) (c:Cfg):Option (AH × TypeId × List Value × Option Nat × Option Nat):=
 match atOp c with
 | some (_,o,F,h)=>match o.op with
  | .makeSlice t l c=>match P.underlying t with
   | some (.slice e)=>match zerosOf e (P.info? e) with
    | some zl=>some (h,e,zl,natOf (evF F l),natOf (evF F c))
    | none=>none
   | _=>none
  | _=>none
 | none=>none
def caM (P:Program) (c:Cfg):Option (AH × Option (FuncId × List Value)):=
 match atOp c with
 | some (_,o,F,h)=>match o.op with
  | .call c=>match c.callee with
   | .value _=>some (h,calleeF P o F)
   | _=>none
  | _=>none
 | none=>none
def fiM:Cfg→Option (Value × AH)
 | .res [] acc _ h=>some (one acc,h)
 | _=>none
def gM:Cfg→Option ((FF→AH→Prop) × AH)
 | .out .normal (.rnd g :: _) _ h=>some (g,h)
 | _=>none
def lhM:Cfg→Option AH
 | .code (.loop _) _ _ h=>some h
 | _=>none
def lpM (c:Cfg) (g:FF→AH→Prop) (h:AH) (F:FF):Cfg:=
 match c with
 | .code (.loop b) k _ _=>.code b (.rnd g :: k) F h
 | _=>.bad
def jbM (c:Cfg) (g:FF→AH→Prop):Cfg:=
 match c with
 | .code b k F h=>.code b (.rnd g :: k) F h
 | _=>.bad
def jaM (c:Cfg) (h:AH) (F:FF):Cfg:=
 match c with
 | .code _ k _ _=>.out .normal k F h
 | _=>.bad
def stopJ (id:Nat):Cfg→Bool
 | .code (.block i _) _ _ _=>Nat.beq (2 * i) id
 | .code (.cond (.tmp t) _ _) _ _ _=>Nat.beq (2 * t+1) id
 | _=>false
def runJ (P:Program) (N:Nat) (rs:List ResultVar) (id n:Nat):Cfg→Cfg:=Nat.rec (motive:=fun _=>Cfg→Cfg) (fun c=>c) (fun _ ih c=>cond (stopJ id c) c (runS c ih (stepM P N rs c))) n
def rj (P:Program) (N:Nat) (rs:List ResultVar) (id:Nat) (c:Cfg):Cfg:=runJ P N rs id 1000 c
def EndG (g:FF→AH→Prop) (F:FF) (h:AH):Prop:=g F h
def getsF (l:List Nat) (F:FF):List (Option Value):=l.map F
def someL (l:List Value):List (Option Value):=l.map some
def ovr:List Nat→List Value→FF→FF
 | s :: ss,v :: vs,G=>FF.put (ovr ss vs G) s v
 | _,_,G=>G
def keepF (fix:List Nat) (F G:FF):FF:=fun k=>cond (mem k fix) (F k) (G k)
section
variable {P:Program} {N:Nat} {rs:List ResultVar} {Q:Value→AH→Prop} {ops:Array Oper} {F:FF} {h:AH} {c:Cfg}
theorem hpM_of {o:Oper} (hc:atOp c=some (ops,o,F,h)):hpM c=h:=by
 unfold atOp at hc
 split at hc
 ·split at hc
  ·obtain ⟨_,hc⟩:=cond_some hc
   injection hc with hc
   injection hc with e1 hc
   injection hc with e2 hc
   injection hc with e3 e4
  ·cases hc
 ·cases hc
theorem goF_of {o:Oper} (hc:atOp c=some (ops,o,F,h)):goF ops F o=true:=by
 unfold atOp at hc
 split at hc
 ·split at hc
  ·obtain ⟨hg,hc⟩:=cond_some hc
   injection hc with hc
   injection hc with e1 hc
   injection hc with e2 hc
   injection hc with e3 e4
   subst e1 e2 e3
   exact hg
  ·cases hc
 ·cases hc
theorem val_ok {o:Oper} {v:Value} (hc:atOp c=some (ops,o,F,h)) (hk:kindOf P o = .val) (hv:evVF P o F h=some v) (K:CF P N rs Q (goV N c v)):CF P N rs Q c:=by
 unfold goV at K
 rw [hpM_of hc] at K
 exact go_ok hc (op_val hk (goF_of hc) hv) K
theorem ldP_ok {t:TypeId} {x:Value} {b o:Nat} {f:Option Nat} {h':AH} (hv:ldP P h t x=some (h',b,o,f)):h' = h∧x = .pointer (some ⟨b,o,none⟩)∧formT P t=some f:=by
 unfold ldP at hv
 split at hv
 ·split at hv
  ·rename_i hf
   injection hv with hv
   injection hv with e1 hv
   injection hv with e2 hv
   injection hv with e3 e4
   subst e1 e2 e3 e4
   exact ⟨rfl,rfl,hf⟩
  ·cases hv
 ·cases hv
theorem ldO_ok {op:Op} {b o:Nat} {f:Option Nat} {h':AH} (hv:ldO P F h op=some (h',b,o,f)):h' = h∧∃ t x,op = .load t x∧evF F x = .pointer (some ⟨b,o,none⟩)∧formT P t=some f:=by
 unfold ldO at hv
 split at hv
 ·rename_i t x
  obtain ⟨a1,a2,a3⟩:=ldP_ok hv
  exact ⟨a1,t,x,rfl,a2,a3⟩
 ·cases hv
theorem load_ev {o:Oper} {t:TypeId} {x:Operand} {b k:Nat} {v:Value} (hop:o.op = .load t x) (hx:evF F x = .pointer (some ⟨b,k,none⟩)) (hl:ldV P t h b k=some v):kindOf P o = .val∧evVF P o F h=some v:=by
 refine ⟨by unfold kindOf; rw [hop],?_⟩
 unfold evVF
 rw [hop]
 show vLoad P t (evF F x) h=some v
 rw [hx]; exact hl
theorem ld_ok {b o:Nat} {f:Option Nat} {v:Value} (hv:ldM P c=some (h,b,o,f)) (hl:∀ t,formT P t=some f→ldV P t h b o=some v) (ho:oldM v c=some v) (he:EqOk v∨eqM v c=true) (K:CF P N rs Q (goV N c v)):CF P N rs Q c:=by
 unfold ldM at hv
 split at hv
 ·rename_i ops i a l k F h'
  split at hv
  ·rename_i op hop
   obtain ⟨hg,hv⟩:=cond_some hv
   obtain ⟨rfl,t,x,h1,h2,h3⟩:=ldO_ok hv
   have hev:=load_ev h1 h2 (hl t h3)
   have he':EqOk v:=he.elim id eqB_ok
   have hold:(match ops[i]? with | some o=>(match o.dst with | some d=>F d | none=>none) | none=>none)=some v:=ho
   rw [hop] at hold
   simp only at hold
   refine ⟨AG.cons ?_ K.1,K.2⟩
   unfold sameAgainF
   rw [hop]
   simp only
   have hlk:looks P op.op=true:=by rw [h1]; rfl
   rw [hlk,(goF_split hg).1,hev.2]
   simp only [cond_true]
   unfold againVF
   split at hold
   ·rename_i d hd
    simp only [hd,hold]
    exact eqv_self 6 he'
   ·cases hold
  ·cases hv
 ·rename_i a t l acc F h'
  split at hv
  ·rename_i x hx
   obtain ⟨rfl,h2,h3⟩:=ldP_ok hv
   obtain ⟨vs,k1,k2⟩:=K
   exact ⟨v :: vs,.cell (by rw [hx,h2]) (hl t h3) k1,by rw [List.append_assoc] at k2; exact k2⟩
  ·cases hv
 ·split at hv
  ·rename_i ops op F h' hc
   obtain ⟨rfl,t,x,h1,h2,h3⟩:=ldO_ok hv
   have hev:=load_ev h1 h2 (hl t h3)
   exact val_ok hc hev.1 hev.2 K
  ·cases hv
theorem ldS {b o:Nat} {v:Value} {R:Prop} (H:ldC h b o=some v∧R) (K:R→CF P N rs Q (goV N c v)) (hv:ldM P c=some (h,b,o,none):=by kernel_rfl) (ho:oldM v c=some v:=by kernel_rfl) (he:eqM v c=true:=by kernel_rfl):CF P N rs Q c:=
 (ld_ok hv (fun t ht=>ldV1 ht H.1) ho (.inr he) (K H.2))
theorem agE {b o:Nat} {v:Value} {R:Prop} (H:ldC h b o=some v∧EqOk v∧R) (K:R→CF P N rs Q (goV N c v)) (hv:ldM P c=some (h,b,o,none):=by kernel_rfl) (ho:oldM v c=some v:=by kernel_rfl):CF P N rs Q c:=
 (ld_ok hv (fun t ht=>ldV1 ht H.1) ho (.inl H.2.1) (K H.2.2))
theorem ldA {b o n:Nat} {v:List Value} {R:Prop} (H:ldN h b o n=some v∧R) (K:R→CF P N rs Q (goV N c (.agg v.toArray))) (hv:ldM P c=some (h,b,o,some n):=by kernel_rfl) (ho:oldM (.agg v.toArray) c=some (.agg v.toArray):=by kernel_rfl) (he:eqM (.agg v.toArray) c=true:=by kernel_rfl):CF P N rs Q c:=
 (ld_ok hv (fun t ht=>ldVn ht H.1) ho (.inr he) (K H.2))
theorem agA {b o n:Nat} {v:List Value} {w:Value} {R:Prop} (H:ldN h b o n=some v∧EqOk w∧R) (K:R→CF P N rs Q (goV N c (.agg v.toArray))) (hw:w = .agg v.toArray:=by kernel_rfl) (hv:ldM P c=some (h,b,o,some n):=by kernel_rfl) (ho:oldM (.agg v.toArray) c=some (.agg v.toArray):=by kernel_rfl):CF P N rs Q c:=
 (ld_ok hv (fun t ht=>ldVn ht H.1) ho (.inl (hw ▸ H.2.1)) (K H.2.2))
theorem stS {b o:Nat} {vs:List Value} {h2:AH} {R:Prop} (H:stC h b o vs=some h2∧R) (K:R→CF P N rs Q (goM N c undef h2)) (hv:stM P c=some (h,b,o,vs):=by kernel_rfl):CF P N rs Q c:=by
 have K:=K H.2
 have hs:=H.1
 unfold stM at hv
 split at hv
 ·rename_i ops op F h0 hc
  split at hv
  ·rename_i t x y hop hdst
   split at hv
   ·rename_i i b' k' hi hp
    obtain ⟨hb,hv⟩:=cond_some hv
    injection hv with hv
    injection hv with e1 hv
    injection hv with e2 hv
    injection hv with e3 e4
    subst e1 e2 e3
    refine go_ok hc (op_loud (by unfold kindOf; rw [hop]) (goF_of hc) ?_) K
    unfold evLF
    rw [hop]
    show lStore h0 (P.info? t) (evF F x) (evF F y)=_
    rw [hi,hp]
    unfold lStore
    simp only [hb,cond_true]
    unfold stC at hs
    rw [e4,hs]
   ·cases hv
  ·cases hv
 ·cases hv
theorem lu {X:Option VH} {v:Value} {h2:AH} {R:Prop} (H:X=some (v,h2)∧R) (K:R→CF P N rs Q (goM N c v h2)) (hv:luM P c=some X:=by kernel_rfl):CF P N rs Q c:=by
 have K:=K H.2
 unfold luM at hv
 split at hv
 ·rename_i ops op F h0 hc
  split at hv
  ·rename_i hk
   injection hv with hv
   exact go_ok hc (op_loud hk (goF_of hc) (hv.trans H.1)) K
  ·cases hv
 ·cases hv
theorem vxM_ok {X:Option Value} (hv:vxM P c=some X):∃ ops o F h,atOp c=some (ops,o,F,h)∧kindOf P o = .val∧evVF P o F h=X:=by
 unfold vxM at hv
 split at hv
 ·rename_i ops op F h0 hc
  split at hv
  ·rename_i hk
   injection hv with hv
   exact ⟨_,_,_,_,hc,hk,hv⟩
  ·cases hv
 ·cases hv
theorem vx {X:Option Value} {v:Value} {R:Prop} (H:X=some v∧R) (K:R→CF P N rs Q (goV N c v)) (hv:vxM P c=some X:=by kernel_rfl):CF P N rs Q c:=
 let ⟨_,_,_,_,h1,h2,h3⟩:=vxM_ok hv
 (val_ok h1 h2 (h3.trans H.1) (K H.2))
theorem intO_ok {X:Option (Option Value)} {k:IntKind} {t:Int} (h:intO X=some (k,t)):X=some (some (.int k t)):=by
 unfold intO at h
 split at h
 ·injection h with h; injection h with h1 h2; subst h1 h2; rfl
 ·cases h
theorem wr {t r:Int} {R:Prop} (H:t=r∧R) (K:R→CF P N rs Q (goV N c (.int (knM P c) r))) (hv:itM P c=some t:=by kernel_rfl):CF P N rs Q c:=by
 have K:=K H.2
 unfold itM at hv
 split at hv
 ·rename_i k t' hi
  injection hv with hv
  obtain ⟨_,_,_,_,h1,h2,h3⟩:=vxM_ok (intO_ok hi)
  have hk:knM P c=k:=by unfold knM; rw [hi]
  rw [hk,← H.1,← hv] at K
  exact val_ok h1 h2 h3 K
 ·cases hv
theorem quo_run {o:Oper} {t yt:TypeId} {x y:Operand} {k:IntKind} {a b:Int} (ho:o.op = .binOp .quo t x y yt) (hx:evF F x = .int k a) (hy:evF F y = .int k b) (hz:b≠0):genF P o F=some (.int k (k.wrap (a.tdiv b))):=by
 unfold genF
 have h1:(allL (fun z=>pl (evF F z)) o.op.operands.toList)=true:=by
  rw [ho]
  show allL (fun z=>pl (evF F z)) [x,y]=true
  unfold allL
  simp only [hx,hy]
  rfl
 rw [h1]
 simp only [cond_true]
 unfold execOp
 rw [ho]
 simp only [hx,hy]
 unfold binOp
 simp [Op.intDiv,hz]
 rfl
theorem rem_run {o:Oper} {t yt:TypeId} {x y:Operand} {k:IntKind} {a b:Int} (ho:o.op = .binOp .rem t x y yt) (hx:evF F x = .int k a) (hy:evF F y = .int k b) (hz:b≠0):genF P o F=some (.int k (a.tmod b)):=by
 unfold genF
 have h1:(allL (fun z=>pl (evF F z)) o.op.operands.toList)=true:=by
  rw [ho]
  show allL (fun z=>pl (evF F z)) [x,y]=true
  unfold allL
  simp only [hx,hy]
  rfl
 rw [h1]
 simp only [cond_true]
 unfold execOp
 rw [ho]
 simp only [hx,hy]
 unfold binOp
 simp [Op.intDiv,hz]
 rfl
theorem quA_ok {k:IntKind} {b t:Int} (hv:quA c=some (k,b,t)) (hz:b≠0):∃ ops o F h,atOp c=some (ops,o,F,h)∧kindOf P o = .val∧evVF P o F h=some (.int k t):=by
 unfold quA at hv
 split at hv
 ·rename_i ops o F h0 hc
  split at hv
  ·rename_i r x y hq
   unfold quV at hv
   split at hv
   ·rename_i k' a l b' hx hy
    obtain ⟨hkl,hv2⟩:=cond_some hv
    clear hv
    have hkl:=eq_of_beq hkl
    subst hkl
    injection hv2 with hv
    injection hv with e1 hv
    injection hv with e2 e3
    subst e1 e2 e3
    refine ⟨ops,o,F,h0,hc,?_⟩
    unfold isQuo at hq
    split at hq
    ·rename_i t x' y' yt hop
     injection hq with hq
     injection hq with e1 hq
     injection hq with e2 e3
     subst e1 e2 e3
     refine ⟨by unfold kindOf; rw [hop],?_⟩
     unfold evVF
     rw [hop]
     show vBinF P .quo t o F (evF F x') (evF F y')=_
     rw [hx,hy]
     unfold vBinF
     simp only [beq_self_eq_true,cond_true]
     exact quo_run hop hx hy hz
    ·rename_i t x' y' yt hop
     injection hq with hq
     injection hq with e1 hq
     injection hq with e2 e3
     subst e1 e2 e3
     refine ⟨by unfold kindOf; rw [hop],?_⟩
     unfold evVF
     rw [hop]
     show vBinF P .rem t o F (evF F x') (evF F y')=_
     rw [hx,hy]
     unfold vBinF
     simp only [beq_self_eq_true,cond_true]
     exact rem_run hop hx hy hz
    ·cases hq
   ·cases hv
  ·cases hv
 ·cases hv
theorem qo {b t r:Int} {R:Prop} (H:b≠0∧t=r∧R) (K:R→CF P N rs Q (goV N c (.int (quK c) r))) (hv:quM c=some (b,t):=by kernel_rfl):CF P N rs Q c:=by
 have K:=K H.2.2
 unfold quM at hv
 split at hv
 ·rename_i k b' t' hi
  injection hv with hv
  injection hv with e1 e2
  subst e1 e2
  obtain ⟨_,_,_,_,h1,h2,h3⟩:=quA_ok (P:=P) hi H.1
  have hk:quK c=k:=by unfold quK; rw [hi]
  rw [hk,← H.2.1] at K
  exact val_ok h1 h2 h3 K
 ·cases hv
theorem tsM_ok {q:Bool} (hv:tsM c=some q):∃ ops o F h,atOp c=some (ops,o,F,h)∧kindOf P o = .val∧evVF P o F h=some (.bool (xor (ngM c) q)):=by
 unfold tsM at hv
 split at hv
 ·rename_i ops o F h0 hc
  split at hv
  ·rename_i op t x y yt hop
   refine ⟨ops,o,F,h0,hc,by unfold kindOf; rw [hop],?_⟩
   have hn:ngM c=isNeq op:=by unfold ngM; rw [hc]; simp only [hop]
   unfold evVF
   rw [hop,hn]
   show vBinF P op t o F (evF F x) (evF F y)=_
   unfold cmpV at hv
   split at hv
   ·rename_i k a l b hx hy
    obtain ⟨hkl,hv⟩:=cond_some hv
    rw [hx,hy]
    unfold vBinF
    simp only [hkl,cond_true]
    unfold cmpB at hv
    cases op <;> simp only at hv <;> first | (cases hv; done) | (injection hv with hv; subst hv; simp [intOp,isNeq,bne])
   ·cases hv
  ·cases hv
 ·cases hv
theorem ts {p:Prop} [Decidable p] {A B:Prop} (H:(p→A)∧(¬ p→B)) (K1:A→CF P N rs Q (goV N c (.bool (Bool.not (ngM c))))) (K2:B→CF P N rs Q (goV N c (.bool (ngM c)))) (hv:tsM c=some (decide p):=by kernel_rfl):CF P N rs Q c:=by
 obtain ⟨_,_,_,_,h1,h2,h3⟩:=tsM_ok (P:=P) hv
 by_cases hp:p
 ·refine val_ok h1 h2 (h3.trans ?_) (K1 (H.1 hp))
  simp [hp]
 ·refine val_ok h1 h2 (h3.trans ?_) (K2 (H.2 hp))
  simp [hp]
theorem ixA_ok {b o n k s:Nat} (hv:ixA P c=some (b,o,n,k,s)) (hk:k<n):∃ ops op F h,atOp c=some (ops,op,F,h)∧kindOf P op = .val∧evVF P op F h=some (.pointer (some ⟨b,o+k * s,none⟩)):=by
 unfold ixA at hv
 split at hv
 ·rename_i ops op F h0 hc
  split at hv
  ·rename_i t x ix hop
   refine ⟨ops,op,F,h0,hc,by unfold kindOf; rw [hop],?_⟩
   unfold evVF
   rw [hop]
   show vIndexAddr P (P.underlying t) (evF F x) (natOf (evF F ix))=_
   have hi:∀ (e:TypeId) (i:TypeInfo),P.info? e=some i→idx P e ⟨b,o,none⟩ n k=some (.pointer (some ⟨b,o+k * i.size,none⟩)):=by
    intro e i h1
    unfold idx
    simp only [h1]
    have:Nat.blt k n=true:=Nat.ble_eq_true_of_le hk
    rw [this]
    simp only [cond_true]
    unfold Addr.add
    split
    ·rename_i h0
     simp [h0]
    ·rfl
   unfold ixO at hv
   unfold vIndexAddr
   split at hv
   ·rename_i e b' o' n' K' k' hu hx hn
    split at hv
    ·rename_i i hi0
     injection hv with hv
     injection hv with e1 hv
     injection hv with e2 hv
     injection hv with e3 hv
     injection hv with e4 e5
     subst e1 e2 e3 e4 e5
     rw [hu,hx,hn]
     exact hi e i hi0
    ·cases hv
   ·rename_i n' e b' o' k' hu hx hn
    split at hv
    ·rename_i i hi0
     injection hv with hv
     injection hv with e1 hv
     injection hv with e2 hv
     injection hv with e3 hv
     injection hv with e4 e5
     subst e1 e2 e3 e4 e5
     rw [hu,hx,hn]
     exact hi e i hi0
    ·cases hv
   ·cases hv
  ·cases hv
 ·cases hv
theorem ix {n k:Nat} {R:Prop} (H:k<n∧R) (K:R→CF P N rs Q (goV N c (ixV P c))) (hv:ixM P c=some (n,k):=by kernel_rfl):CF P N rs Q c:=by
 have K:=K H.2
 unfold ixM at hv
 split at hv
 ·rename_i b o n' k' s hi
  injection hv with hv
  injection hv with e1 e2
  subst e1 e2
  obtain ⟨_,_,_,_,h1,h2,h3⟩:=ixA_ok hi H.1
  have hV:ixV P c = .pointer (some ⟨b,o+k' * s,none⟩):=by
   unfold ixV
   rw [hi]
   simp only
   cases hs:Nat.beq s 1 with
   | false=>rfl
   | true=>rw [beq_eq hs,Nat.mul_one]; rfl
  rw [hV] at K
  exact val_ok h1 h2 h3 K
 ·cases hv
theorem nw {ao:AO} {R:AH→Prop} (H:∀ h2,h2=AH.new h ao→R h2) (K:∀ h2,h2=AH.new h ao→R h2→CF P N rs Q (goM N c (nwV P c) h2)) (hv:nwM P c=some (h,ao):=by kernel_rfl):CF P N rs Q c:=by
 have K:=K _ rfl (H _ rfl)
 unfold nwM at hv
 split at hv
 ·rename_i h' b f hi
  injection hv with hv
  injection hv with e1 e2
  subst e1 e2
  have hV:nwV P c=f h'.next:=by unfold nwV; rw [hi]
  rw [hV] at K
  unfold nwA at hi
  split at hi
  ·rename_i ops o F h0 hc
   split at hi
   ·rename_i hk
    split at hi
    ·rename_i b' hb
     injection hi with hi
     injection hi with e1 e2
     subst e1 e2
     exact go_ok hc (op_lay hk (goF_of hc) hb) K
    ·cases hi
   ·cases hi
  ·cases hi
 ·cases hv
theorem mk2 {e n k:Nat} {zl:List Value} {R:AH→Prop} (H:n≤k∧k<1000000∧∀ h2,h2=AH.new h (.cells (rep k zl) e false)→R h2) (K:∀ h2,h2=AH.new h (.cells (rep k zl) e false)→R h2→CF P N rs Q (goM N c (.slice (some ⟨h.next,0,none⟩) n (cx k)) h2)) (hv:mkM P c=some (h,e,zl,some n,some k):=by kernel_rfl):CF P N rs Q c:=by
 obtain ⟨hn,hc,H⟩:=H
 have K:=K _ rfl (H _ rfl)
 unfold mkM at hv
 split at hv
 ·rename_i ops o F h0 hat
  split at hv
  ·rename_i t x y hop
   split at hv
   ·rename_i e' hu
    split at hv
    ·rename_i zl' hz
     injection hv with hv
     injection hv with h1 hv
     injection hv with h2 hv
     injection hv with h3 hv
     injection hv with h4 h5
     subst h1 h2 h3
     refine go_ok hat (op_lay (ao:=.cells (rep k zl') e' false) (f:=asSl n (cx k)) (by unfold kindOf; rw [hop]) (goF_of hat) ?_) K
     unfold evAF
     rw [hop]
     show aMakeSlice P (P.underlying t) (natOf (evF F x)) (natOf (evF F y))=_
     rw [hu,h4,h5]
     show aMake e' n k (P.info? e')=_
     unfold zerosOf at hz
     unfold aMake
     split at hz
     ·rename_i i hi
      rw [hi]
      simp only
      split at hz
      ·rename_i z hz0
       rw [hz0]
       simp only
       have hb1:Nat.ble n k=true:=Nat.ble_eq_true_of_le hn
       have hb2:Nat.blt k 1000000=true:=Nat.ble_eq_true_of_le hc
       obtain ⟨hzz,hz⟩:=cond_some hz
       injection hz with hz
       simp only [Bool.and_eq_true] at hzz
       rw [hb1,hb2,hzz.1,hzz.2]
       simp only [Bool.and_self,cond_true,hz]
      ·cases hz
     ·cases hz
    ·cases hv
   ·cases hv
  ·cases hv
 ·cases hv
theorem mk {e k:Nat} {zl:List Value} {R:AH→Prop} (H:k<1000000∧∀ h2,h2=AH.new h (.cells (rep k zl) e false)→R h2) (K:∀ h2,h2=AH.new h (.cells (rep k zl) e false)→R h2→CF P N rs Q (goM N c (.slice (some ⟨h.next,0,none⟩) k (cx k)) h2)) (hv:mkM P c=some (h,e,zl,some k,some k):=by kernel_rfl):CF P N rs Q c:=
 mk2 ⟨Nat.le_refl _,H⟩ K hv
theorem ca {g:FuncId} {args:List Value} {R:Value→AH→Prop} (H:WC P g args h R) (K:∀ v h2,R v h2→CF P N rs Q (goM N c v h2)) (hv:caM P c=some (h,some (g,args)):=by kernel_rfl):CF P N rs Q c:=by
 unfold caM at hv
 split at hv
 ·rename_i ops o F h0 hc
  split at hv
  ·rename_i cl hop
   split at hv
   ·rename_i f hcl
    injection hv with hv
    injection hv with e1 e2
    subst e1
    obtain ⟨n,v,h',hr,hK⟩:=H
    refine go_ok hc (fun fr hfr=>?_) (K v h' hK)
    obtain ⟨hw,hco⟩:=goF_split (goF_of hc)
    refine W1.wanted (by rw [want_F,hfr]; exact hw) (W1.call (g:=g) (args:=args) rfl hco ?_ ?_ ?_ ⟨n,v,h',hr,rfl,rfl⟩)
    ·show kindOf P o = .loud
     unfold kindOf; simp only [hop,hcl]
    ·show evL P o fr h0=none
     rw [evL_F]
     unfold evLF
     rw [hop]
     show lCallF P fr.get h0 cl=none
     unfold lCallF
     rw [hcl]
    ·show callee P o fr=_
     rw [callee_F,hfr]; exact e2
   ·cases hv
  ·cases hv
 ·cases hv
theorem fc {g:FuncId} {args:List Value} {R:Value→AH→Prop} (H:goesTo P g=true∧WC P g args h R) (K:∀ v h2,R v h2→CF P N rs Q (goM N c v h2)) (hv:caM P c=some (h,cond (goesTo P g) (some (g,args)) none):=by kernel_rfl):CF P N rs Q c:=
 ca H.2 K (by rw [hv,H.1]; rfl)
theorem fin {v:Value} (H:Q v h) (hv:fiM c=some (v,h):=by kernel_rfl):CF P N rs Q c:=by
 unfold fiM at hv
 split at hv
 ·rename_i acc F h'
  injection hv with hv
  injection hv with e1 e2
  subst e1 e2
  exact ⟨[],.nil,by rw [List.append_nil]; exact H⟩
 ·cases hv
theorem rE {g:FF→AH→Prop} (E:EndG g (frM c) h) (hv:gM c=some (g,h):=by kernel_rfl):CF P N rs Q c:=by
 unfold gM at hv
 split at hv
 ·injection hv with hv
  injection hv with e1 e2
  subst e1 e2
  exact E
 ·cases hv
theorem frame_getF:∀ (args:List Value) (i:Nat) (t:Tr Value) (k:Nat),(frame i args t).get k=if i≤k then (match aF args (k - i) with | some v=>some v | none=>t.get k) else t.get k
 | [],i,t,k=>by
  show t.get k=_
  split <;> rfl
 | v :: l,i,t,k=>by
  show (frame (i+1) l (t.set i (some v))).get k=_
  rw [frame_getF l (i+1) (t.set i (some v)) k]
  by_cases hik:i+1≤k
  ·rw [if_pos hik,if_pos (by omega)]
   obtain ⟨m,hm⟩:∃ m,k - i=m+1:=⟨k - i - 1,by omega⟩
   have h2:k - (i+1)=m:=by omega
   rw [hm,h2,Tr.get_set_ne _ _ (by omega)]
   rfl
  ·rw [if_neg hik]
   by_cases e:i=k
   ·subst e
    rw [Tr.get_set,if_pos (Nat.le_refl _),Nat.sub_self]; rfl
   ·rw [Tr.get_set_ne _ _ e,if_neg (by omega)]
theorem ovr_eq:∀ (ss:List Nat) (vs:List Value) {F:FF},getsF ss F=someL vs→ovr ss vs F=F
 | [],vs,F,_=>by cases vs <;> rfl
 | s :: ss,[],F,hl=>by cases hl
 | s :: ss,v :: vs,F,hl=>by
  injection hl with h1 h2
  have ih:=ovr_eq ss vs (F:=F) h2
  show FF.put (ovr ss vs F) s v=F
  rw [ih]
  funext k
  unfold FF.put
  by_cases e:k=s
  ·subst e; rw [Nat.beq_refl,h1]; rfl
  ·have hb:Nat.beq k s=false:=by
    cases hb:Nat.beq k s with
    | false=>rfl
    | true=>exact absurd (beq_eq hb) e
   rw [hb]; rfl
theorem keepF_eq {fix:List Nat} {F G:FF} (hg:getsF fix G=getsF fix F):keepF fix F G=G:=by
 funext k
 unfold keepF
 cases hm:mem k fix with
 | false=>rfl
 | true=>
  have hm:=mem_iff.1 hm
  have:∀ l:List Nat,getsF l G=getsF l F→k∈l→G k=F k:=by
   intro l
   induction l with
   | nil=>intro _ h; cases h
   | cons s l ih=>
    intro h1 h2
    injection h1 with a b
    cases h2 with
    | head=>exact a
    | tail _ h2=>exact ih b h2
  exact (this fix hg hm).symm
theorem lpB {ι:Type} (fix mod:List Nat) (vals:ι→List Value) (J:Nat→ι→AH→Prop) {m0:Nat} {x0:ι} (h0:J m0 x0 h)
  (K:∀ m x h G g,(∀ F h x,(∃ m',m' < m∧J m' x h)→getsF mod F=someL (vals x)→getsF fix F=getsF fix (frM c)→EndG g F h)→J m x h→CF P N rs Q (lpM c g h (ovr mod (vals x) (keepF fix (frM c) G))))
  (hh:lhM c=some h) (hF:getsF mod (frM c)=someL (vals x0)):CF P N rs Q c:=by
 unfold lhM at hh
 split at hh
 ·rename_i b k F h'
  injection hh with hh
  subst hh
  intro fr hs
  refine W.loop (fun m fr h=>∃ F' x,Sees N F' fr∧J m x h∧getsF mod F' = someL (vals x)∧getsF fix F' = getsF fix F) m0 ⟨F,x0,hs,h0,hF,rfl⟩ ?_
  rintro m fr h ⟨F',x,hs,hJ,h1,h2⟩
  have k1:=K m x h F' (fun F'' h''=>∃ m' x',m' < m∧J m' x' h''∧getsF mod F'' = someL (vals x')∧getsF fix F'' = getsF fix F) (fun F'' h'' x' ⟨m',a1,a2⟩ a3 a4=>⟨m',x',a1,a2,a3,a4⟩) hJ
  have e:ovr mod (vals x) (keepF fix F F')=F':=by rw [keepF_eq h2]; exact ovr_eq _ _ h1
  have k2:CF P N rs Q (.code b (.rnd _ :: k) (ovr mod (vals x) (keepF fix F F')) h):=k1
  rw [e] at k2
  refine (k2 fr hs).mono fun e fr' h'=>?_
  rintro ⟨F'',hs',q⟩
  cases e with
  | normal=>
   obtain ⟨m',x',a1,a2,a3,a4⟩:=q
   exact ⟨m',a1,F'',x',hs',a2,a3,a4⟩
  | exit i=>exact ⟨F'',hs',q⟩
  | ret=>exact ⟨F'',hs',q⟩
 ·cases hh
theorem runJ_ok {id:Nat}:∀ (n:Nat) (c:Cfg),CF P N rs Q (runJ P N rs id n c)→CF P N rs Q c
 | 0,c,K=>K
 | n+1,c,K=>by
  have K':CF P N rs Q (cond (stopJ id c) c (runS c (runJ P N rs id n) (stepM P N rs c))):=K
  cases hs:stopJ id c with
  | true=>rw [hs] at K'; exact K'
  | false=>
   rw [hs] at K'
   have K2:CF P N rs Q (runS c (runJ P N rs id n) (stepM P N rs c)):=K'
   unfold runS at K2
   split at K2
   ·rename_i c' hs
    exact stepM_ok hs (runJ_ok n c' K2)
   ·exact K2
theorem jnB {ι:Type} (id:Nat) (fix mod:List Nat) (vals:ι→List Value) (R:ι→AH→Prop)
  (K2:∀ x h G,R x h→CF P N rs Q (jaM (rj P N rs id c) h (ovr mod (vals x) (keepF fix (frM (rj P N rs id c)) G))))
  (K1:∀ g,(∀ F h x,R x h→getsF mod F=someL (vals x)→getsF fix F=getsF fix (frM (rj P N rs id c))→EndG g F h)→CF P N rs Q (jbM (rj P N rs id c) g)):CF P N rs Q c:=by
 refine runJ_ok (id:=id) 1000 c ?_
 show CF P N rs Q (rj P N rs id c)
 generalize rj P N rs id c=c at K1 K2
 have k1:=K1 (fun F' h'=>∃ x,R x h'∧getsF mod F' = someL (vals x)∧getsF fix F' = getsF fix (frM c)) (fun F' h' x a1 a2 a3=>⟨x,a1,a2,a3⟩)
 cases c with
 | code b k F h=>
  intro fr hs
  refine (k1 fr hs).mono fun e fr' h'=>?_
  rintro ⟨F',hs',q⟩
  cases e with
  | normal=>
   obtain ⟨x,a1,a2,a3⟩:=q
   refine ⟨F',hs',?_⟩
   have k2:=K2 x h' F' a1
   have e:ovr mod (vals x) (keepF fix F F')=F':=by rw [keepF_eq (F:=F) a3]; exact ovr_eq _ _ a2
   have k3:CF P N rs Q (.out .normal k (ovr mod (vals x) (keepF fix F F')) h'):=k2
   rw [e] at k3
   exact k3
  | exit i=>exact ⟨F',hs',q⟩
  | ret=>exact ⟨F',hs',q⟩
 | _=>exact k1.elim
def Skp (p:Prop):Prop:=p
abbrev EG (c0:Cfg) (fix mod:List Nat) (g:FF→AH→Prop) (F:FF) (h:AH) (vs:List Value):Prop:=getsF mod F=someL vs→getsF fix F=getsF fix (frM c0)→EndG g F h
abbrev ovK (c0:Cfg) (fix mod:List Nat) (vs:List Value) (G:FF):FF:=ovr mod vs (keepF fix (frM c0) G)
abbrev AQ (p:Option Addr) (R:Nat→Nat→Prop):Prop:=∃ b o,p=some ⟨b,o,none⟩∧R b o
abbrev NK (x:Int) (R:Nat→Prop):Prop:=∃ k:Nat,x=(k:Int)∧R k
abbrev WR (t:Int) (R:Int→Prop):Prop:=∃ x,IntKind.i64.wrap t=x∧R x
abbrev LI (h:AH) (b o:Nat) (R:Int→Prop):Prop:=∃ x,ldC h b o=some (.int .i64 x)∧R x
abbrev LZ (h:AH) (b o:Nat) (R:Option Addr→Nat→Nat→Prop):Prop:=∃ A n K,ldC h b o=some (.slice A n K)∧R A n K
abbrev LP (h:AH) (b o:Nat) (R:Option Addr→Prop):Prop:=∃ p,ldC h b o=some (.pointer p)∧R p
abbrev ST (h:AH) (b o:Nat) (vs:List Value) (R:AH→Prop):Prop:=∃ h2,stC h b o vs=some h2∧R h2
abbrev NW (h:AH) (ao:AO) (R:AH→Prop):Prop:=∀ h2,h2=AH.new h ao→R h2
abbrev TS (p:Prop) (A B:Prop):Prop:=(p→A)∧(¬ p→B)
abbrev BS (b:Bool) (A B:Prop):Prop:=(b=true→A)∧(b=false→B)
abbrev RE (m:Nat) (R:Nat→Prop):Prop:=∃ m',m' < m∧R m'
theorem skp {p R G:Prop} (H:Skp p∧R) (K:R→G):G:=K H.2
theorem exE {α:Sort _} {p:α→Prop} {G:Prop} (H:∃ x,p x) (K:∀ x,p x→G):G:=let ⟨x,h⟩:=H; K x h
theorem natE {x:Int} {k:Nat} {R G:Prop} (H:x=(k:Int)∧R) (K:x=(k:Int)→R→G):G:=K H.1 H.2
theorem eqE {α:Type} {x y:α} {R G:Prop} (H:x=y∧R) (K:x=y→R→G):G:=K H.1 H.2
theorem bsp {b:Bool} {A B G:Prop} (H:(b=true→A)∧(b=false→B)) (K1:b=true→A→G) (K2:b=false→B→G):G:=by
 cases b
 ·exact K2 rfl (H.2 rfl)
 ·exact K1 rfl (H.1 rfl)
theorem nsp {α:Type} {x:Option α} {A B G:Prop} (H:(x=none→A)∧(x≠none→B)) (K1:x=none→A→G) (K2:True→B→G):G:=by
 cases x
 ·exact K1 rfl (H.1 rfl)
 ·exact K2 trivial (H.2 (by simp))
theorem isp {e:Option (Nat × Value)} {A:Prop} {B:Nat→Value→Prop} {G:Prop} (H:(e=none→A)∧(∀ t v,e=some (t,v)→B t v)) (K1:e=none→A→G) (K2:∀ t v,e=some (t,v)→B t v→G):G:=by
 rcases e with _ | ⟨t,v⟩
 ·exact K1 rfl (H.1 rfl)
 ·exact K2 t v rfl (H.2 t v rfl)
abbrev LJ0 (fix mod:List Nat) (vals:List Value):Type:=Nat→AH→Prop
theorem lp0 {fix mod:List Nat} {vals:List Value} {J:LJ0 fix mod vals} {m0:Nat} {R:Nat→AH→Prop} {T:Prop} (E:T) (H:J m0 h∧∀ m h,J m h→R m h) (K:∀ m h G g,((∀ {F h},(∃ m',m' < m∧J m' h)→EG c fix mod g F h (vals))∧T)→R m h→CF P N rs Q (lpM c g h (ovK c fix mod (vals) G))) (hh:lhM c=some h:=by kernel_rfl) (hF:getsF mod (frM c)=someL (vals):=by kernel_rfl):CF P N rs Q c:=
 lpB (ι:=Unit) fix mod (fun x=>vals) (fun m x h=>J m h) (x0:=()) H.1 (fun m x h G g e hJ=>K m h G g ⟨fun {F h}=>e F h (),E⟩ (H.2 m h hJ)) hh hF
abbrev LR0 (id:Nat) (fix mod:List Nat) (vals:List Value):Type:=AH→Prop
theorem jn0 {id:Nat} {fix mod:List Nat} {vals:List Value} {J:LR0 id fix mod vals} {R:AH→Prop} {T B:Prop} (E:T) (H:(∀ h,J h→R h)∧B) (K2:∀ h G,T→R h→CF P N rs Q (jaM (rj P N rs id c) h (ovK (rj P N rs id c) fix mod (vals) G))) (K1:∀ g,((∀ {F h},J h→EG (rj P N rs id c) fix mod g F h (vals))∧T)→B→CF P N rs Q (jbM (rj P N rs id c) g)):CF P N rs Q c:=
 jnB (ι:=Unit) id fix mod (fun x=>vals) (fun x h=>J h) (fun x h G hJ=>K2 h G E (H.1 h hJ)) (fun g e=>K1 g ⟨fun {F h}=>e F h (),E⟩ H.2)
abbrev LJ1 {A0:Type} (fix mod:List Nat) (vals:A0→List Value):Type:=Nat→A0→AH→Prop
theorem lp1 {A0:Type} {fix mod:List Nat} {vals:A0→List Value} {J:LJ1 fix mod vals} {m0:Nat} {a0:A0} {R:Nat→A0→AH→Prop} {T:Prop} (E:T) (H:J m0 a0 h∧∀ m x0 h,J m x0 h→R m x0 h) (K:∀ m x0 h G g,((∀ {F h x0},(∃ m',m' < m∧J m' x0 h)→EG c fix mod g F h (vals x0))∧T)→R m x0 h→CF P N rs Q (lpM c g h (ovK c fix mod (vals x0) G))) (hh:lhM c=some h:=by kernel_rfl) (hF:getsF mod (frM c)=someL (vals a0):=by kernel_rfl):CF P N rs Q c:=
 lpB (ι:=A0) fix mod (fun x=>vals x) (fun m x h=>J m x h) (x0:=a0) H.1 (fun m x h G g e hJ=>K m x h G g ⟨fun {F h x0}=>e F h x0,E⟩ (H.2 m x h hJ)) hh hF
abbrev LR1 {A0:Type} (id:Nat) (fix mod:List Nat) (vals:A0→List Value):Type:=A0→AH→Prop
theorem jn1 {A0:Type} {id:Nat} {fix mod:List Nat} {vals:A0→List Value} {J:LR1 id fix mod vals} {R:A0→AH→Prop} {T B:Prop} (E:T) (H:(∀ x0 h,J x0 h→R x0 h)∧B) (K2:∀ x0 h G,T→R x0 h→CF P N rs Q (jaM (rj P N rs id c) h (ovK (rj P N rs id c) fix mod (vals x0) G))) (K1:∀ g,((∀ {F h x0},J x0 h→EG (rj P N rs id c) fix mod g F h (vals x0))∧T)→B→CF P N rs Q (jbM (rj P N rs id c) g)):CF P N rs Q c:=
 jnB (ι:=A0) id fix mod (fun x=>vals x) (fun x h=>J x h) (fun x h G hJ=>K2 x h G E (H.1 x h hJ)) (fun g e=>K1 g ⟨fun {F h x0}=>e F h x0,E⟩ H.2)
abbrev LJ2 {A0 A1:Type} (fix mod:List Nat) (vals:A0→A1→List Value):Type:=Nat→A0→A1→AH→Prop
theorem lp2 {A0 A1:Type} {fix mod:List Nat} {vals:A0→A1→List Value} {J:LJ2 fix mod vals} {m0:Nat} {a0:A0} {a1:A1} {R:Nat→A0→A1→AH→Prop} {T:Prop} (E:T) (H:J m0 a0 a1 h∧∀ m x0 x1 h,J m x0 x1 h→R m x0 x1 h) (K:∀ m x0 x1 h G g,((∀ {F h x0 x1},(∃ m',m' < m∧J m' x0 x1 h)→EG c fix mod g F h (vals x0 x1))∧T)→R m x0 x1 h→CF P N rs Q (lpM c g h (ovK c fix mod (vals x0 x1) G))) (hh:lhM c=some h:=by kernel_rfl) (hF:getsF mod (frM c)=someL (vals a0 a1):=by kernel_rfl):CF P N rs Q c:=
 lpB (ι:=A0 × A1) fix mod (fun x=>vals x.1 x.2) (fun m x h=>J m x.1 x.2 h) (x0:=(a0,a1)) H.1 (fun m x h G g e hJ=>K m x.1 x.2 h G g ⟨fun {F h x0 x1}=>e F h (x0,x1),E⟩ (H.2 m x.1 x.2 h hJ)) hh hF
abbrev LR2 {A0 A1:Type} (id:Nat) (fix mod:List Nat) (vals:A0→A1→List Value):Type:=A0→A1→AH→Prop
theorem jn2 {A0 A1:Type} {id:Nat} {fix mod:List Nat} {vals:A0→A1→List Value} {J:LR2 id fix mod vals} {R:A0→A1→AH→Prop} {T B:Prop} (E:T) (H:(∀ x0 x1 h,J x0 x1 h→R x0 x1 h)∧B) (K2:∀ x0 x1 h G,T→R x0 x1 h→CF P N rs Q (jaM (rj P N rs id c) h (ovK (rj P N rs id c) fix mod (vals x0 x1) G))) (K1:∀ g,((∀ {F h x0 x1},J x0 x1 h→EG (rj P N rs id c) fix mod g F h (vals x0 x1))∧T)→B→CF P N rs Q (jbM (rj P N rs id c) g)):CF P N rs Q c:=
 jnB (ι:=A0 × A1) id fix mod (fun x=>vals x.1 x.2) (fun x h=>J x.1 x.2 h) (fun x h G hJ=>K2 x.1 x.2 h G E (H.1 x.1 x.2 h hJ)) (fun g e=>K1 g ⟨fun {F h x0 x1}=>e F h (x0,x1),E⟩ H.2)
abbrev LJ3 {A0 A1 A2:Type} (fix mod:List Nat) (vals:A0→A1→A2→List Value):Type:=Nat→A0→A1→A2→AH→Prop
theorem lp3 {A0 A1 A2:Type} {fix mod:List Nat} {vals:A0→A1→A2→List Value} {J:LJ3 fix mod vals} {m0:Nat} {a0:A0} {a1:A1} {a2:A2} {R:Nat→A0→A1→A2→AH→Prop} {T:Prop} (E:T) (H:J m0 a0 a1 a2 h∧∀ m x0 x1 x2 h,J m x0 x1 x2 h→R m x0 x1 x2 h) (K:∀ m x0 x1 x2 h G g,((∀ {F h x0 x1 x2},(∃ m',m' < m∧J m' x0 x1 x2 h)→EG c fix mod g F h (vals x0 x1 x2))∧T)→R m x0 x1 x2 h→CF P N rs Q (lpM c g h (ovK c fix mod (vals x0 x1 x2) G))) (hh:lhM c=some h:=by kernel_rfl) (hF:getsF mod (frM c)=someL (vals a0 a1 a2):=by kernel_rfl):CF P N rs Q c:=
 lpB (ι:=A0 × A1 × A2) fix mod (fun x=>vals x.1 x.2.1 x.2.2) (fun m x h=>J m x.1 x.2.1 x.2.2 h) (x0:=(a0,a1,a2)) H.1 (fun m x h G g e hJ=>K m x.1 x.2.1 x.2.2 h G g ⟨fun {F h x0 x1 x2}=>e F h (x0,x1,x2),E⟩ (H.2 m x.1 x.2.1 x.2.2 h hJ)) hh hF
abbrev LJ4 {A0 A1 A2 A3:Type} (fix mod:List Nat) (vals:A0→A1→A2→A3→List Value):Type:=Nat→A0→A1→A2→A3→AH→Prop
theorem lp4 {A0 A1 A2 A3:Type} {fix mod:List Nat} {vals:A0→A1→A2→A3→List Value} {J:LJ4 fix mod vals} {m0:Nat} {a0:A0} {a1:A1} {a2:A2} {a3:A3} {R:Nat→A0→A1→A2→A3→AH→Prop} {T:Prop} (E:T) (H:J m0 a0 a1 a2 a3 h∧∀ m x0 x1 x2 x3 h,J m x0 x1 x2 x3 h→R m x0 x1 x2 x3 h) (K:∀ m x0 x1 x2 x3 h G g,((∀ {F h x0 x1 x2 x3},(∃ m',m' < m∧J m' x0 x1 x2 x3 h)→EG c fix mod g F h (vals x0 x1 x2 x3))∧T)→R m x0 x1 x2 x3 h→CF P N rs Q (lpM c g h (ovK c fix mod (vals x0 x1 x2 x3) G))) (hh:lhM c=some h:=by kernel_rfl) (hF:getsF mod (frM c)=someL (vals a0 a1 a2 a3):=by kernel_rfl):CF P N rs Q c:=
 lpB (ι:=A0 × A1 × A2 × A3) fix mod (fun x=>vals x.1 x.2.1 x.2.2.1 x.2.2.2) (fun m x h=>J m x.1 x.2.1 x.2.2.1 x.2.2.2 h) (x0:=(a0,a1,a2,a3)) H.1 (fun m x h G g e hJ=>K m x.1 x.2.1 x.2.2.1 x.2.2.2 h G g ⟨fun {F h x0 x1 x2 x3}=>e F h (x0,x1,x2,x3),E⟩ (H.2 m x.1 x.2.1 x.2.2.1 x.2.2.2 h hJ)) hh hF
abbrev LJ5 {A0 A1 A2 A3 A4:Type} (fix mod:List Nat) (vals:A0→A1→A2→A3→A4→List Value):Type:=Nat→A0→A1→A2→A3→A4→AH→Prop
theorem lp5 {A0 A1 A2 A3 A4:Type} {fix mod:List Nat} {vals:A0→A1→A2→A3→A4→List Value} {J:LJ5 fix mod vals} {m0:Nat} {a0:A0} {a1:A1} {a2:A2} {a3:A3} {a4:A4} {R:Nat→A0→A1→A2→A3→A4→AH→Prop} {T:Prop} (E:T) (H:J m0 a0 a1 a2 a3 a4 h∧∀ m x0 x1 x2 x3 x4 h,J m x0 x1 x2 x3 x4 h→R m x0 x1 x2 x3 x4 h) (K:∀ m x0 x1 x2 x3 x4 h G g,((∀ {F h x0 x1 x2 x3 x4},(∃ m',m' < m∧J m' x0 x1 x2 x3 x4 h)→EG c fix mod g F h (vals x0 x1 x2 x3 x4))∧T)→R m x0 x1 x2 x3 x4 h→CF P N rs Q (lpM c g h (ovK c fix mod (vals x0 x1 x2 x3 x4) G))) (hh:lhM c=some h:=by kernel_rfl) (hF:getsF mod (frM c)=someL (vals a0 a1 a2 a3 a4):=by kernel_rfl):CF P N rs Q c:=
 lpB (ι:=A0 × A1 × A2 × A3 × A4) fix mod (fun x=>vals x.1 x.2.1 x.2.2.1 x.2.2.2.1 x.2.2.2.2) (fun m x h=>J m x.1 x.2.1 x.2.2.1 x.2.2.2.1 x.2.2.2.2 h) (x0:=(a0,a1,a2,a3,a4)) H.1 (fun m x h G g e hJ=>K m x.1 x.2.1 x.2.2.1 x.2.2.2.1 x.2.2.2.2 h G g ⟨fun {F h x0 x1 x2 x3 x4}=>e F h (x0,x1,x2,x3,x4),E⟩ (H.2 m x.1 x.2.1 x.2.2.1 x.2.2.2.1 x.2.2.2.2 h hJ)) hh hF
abbrev LJ7 {A0 A1 A2 A3 A4 A5 A6:Type} (fix mod:List Nat) (vals:A0→A1→A2→A3→A4→A5→A6→List Value):Type:=Nat→A0→A1→A2→A3→A4→A5→A6→AH→Prop
theorem lp7 {A0 A1 A2 A3 A4 A5 A6:Type} {fix mod:List Nat} {vals:A0→A1→A2→A3→A4→A5→A6→List Value} {J:LJ7 fix mod vals} {m0:Nat} {a0:A0} {a1:A1} {a2:A2} {a3:A3} {a4:A4} {a5:A5} {a6:A6} {R:Nat→A0→A1→A2→A3→A4→A5→A6→AH→Prop} {T:Prop} (E:T) (H:J m0 a0 a1 a2 a3 a4 a5 a6 h∧∀ m x0 x1 x2 x3 x4 x5 x6 h,J m x0 x1 x2 x3 x4 x5 x6 h→R m x0 x1 x2 x3 x4 x5 x6 h) (K:∀ m x0 x1 x2 x3 x4 x5 x6 h G g,((∀ {F h x0 x1 x2 x3 x4 x5 x6},(∃ m',m' < m∧J m' x0 x1 x2 x3 x4 x5 x6 h)→EG c fix mod g F h (vals x0 x1 x2 x3 x4 x5 x6))∧T)→R m x0 x1 x2 x3 x4 x5 x6 h→CF P N rs Q (lpM c g h (ovK c fix mod (vals x0 x1 x2 x3 x4 x5 x6) G))) (hh:lhM c=some h:=by kernel_rfl) (hF:getsF mod (frM c)=someL (vals a0 a1 a2 a3 a4 a5 a6):=by kernel_rfl):CF P N rs Q c:=
 lpB (ι:=A0 × A1 × A2 × A3 × A4 × A5 × A6) fix mod (fun x=>vals x.1 x.2.1 x.2.2.1 x.2.2.2.1 x.2.2.2.2.1 x.2.2.2.2.2.1 x.2.2.2.2.2.2) (fun m x h=>J m x.1 x.2.1 x.2.2.1 x.2.2.2.1 x.2.2.2.2.1 x.2.2.2.2.2.1 x.2.2.2.2.2.2 h) (x0:=(a0,a1,a2,a3,a4,a5,a6)) H.1 (fun m x h G g e hJ=>K m x.1 x.2.1 x.2.2.1 x.2.2.2.1 x.2.2.2.2.1 x.2.2.2.2.2.1 x.2.2.2.2.2.2 h G g ⟨fun {F h x0 x1 x2 x3 x4 x5 x6}=>e F h (x0,x1,x2,x3,x4,x5,x6),E⟩ (H.2 m x.1 x.2.1 x.2.2.1 x.2.2.2.1 x.2.2.2.2.1 x.2.2.2.2.2.1 x.2.2.2.2.2.2 h hJ)) hh hF
theorem wk (fn:Func) (N:Nat) (rs:List ResultVar) {g:FuncId} {args:List Value} {C:Prop} (H:C) (hf:P.funcs[g]? = some fn) (K:C→CF P N rs Q (.code (cbody fn) [] (aF args) h):=by
  clear H; intro H
  have E:=True.intro
  repeat' first
   | with_reducible exact rn_ok (fin H)
   | with_reducible exact False.elim H
   | with_reducible exact rn_ok (rE (E.1 H (by kernel_rfl) (by kernel_rfl)))
   | with_reducible exact rn_ok (rE (E.2.1 H (by kernel_rfl) (by kernel_rfl)))
   | with_reducible exact rn_ok (rE (E.2.2.1 H (by kernel_rfl) (by kernel_rfl)))
   | with_reducible exact rn_ok (rE (E.2.2.2.1 H (by kernel_rfl) (by kernel_rfl)))
   | with_reducible exact rn_ok (rE (E.2.2.2.2.1 H (by kernel_rfl) (by kernel_rfl)))
   | with_reducible exact rn_ok (rE (E.2.2.2.2.2.1 H (by kernel_rfl) (by kernel_rfl)))
   | with_reducible exact rn_ok (rE (E.2.2.2.2.2.2.1 H (by kernel_rfl) (by kernel_rfl)))
   | (with_reducible refine exE H ?_; clear H; intro _ H)
   | (with_reducible refine rn_ok (agE H ?_); clear H; intro H)
   | (with_reducible refine rn_ok (agA H ?_); clear H; intro H)
   | (with_reducible refine rn_ok (ldS H ?_); clear H; intro H)
   | (with_reducible refine rn_ok (ldA H ?_); clear H; intro H)
   | (with_reducible refine rn_ok (stS H ?_); clear H; intro H)
   | (with_reducible refine skp H ?_; clear H; intro H)
   | (with_reducible refine natE H ?_; clear H; intro e H; cases e)
   | (with_reducible refine rn_ok (wr H ?_); clear H; intro H)
   | (with_reducible refine rn_ok (qo H ?_); clear H; intro H)
   | (with_reducible refine rn_ok (lu H ?_); clear H; intro H)
   | (with_reducible refine rn_ok (vx H ?_); clear H; intro H)
   | (with_reducible refine rn_ok (mk H ?_); clear H; intro _ _ H)
   | (with_reducible refine rn_ok (mk2 H ?_); clear H; intro _ _ H)
   | (with_reducible refine rn_ok (nw H ?_); clear H; intro _ _ H)
   | (with_reducible refine rn_ok (ca H ?_); clear H; intro _ _ H)
   | (with_reducible refine rn_ok (fc H ?_); clear H; intro _ _ H)
   | (with_reducible refine rn_ok (ix H ?_); clear H; intro H)
   | (with_reducible refine bsp H ?_ ?_ <;> (clear H; intro e H; cases e))
   | (with_reducible refine nsp H ?_ ?_ <;> (clear H; intro e H; cases e))
   | (with_reducible refine isp H ?_ ?_; (clear H; intro e H; cases e); rotate_left; (clear H; intro _ _ e H; cases e); rotate_left)
   | (with_reducible refine rn_ok (ts H ?_ ?_) <;> (clear H; intro H))
   | (with_reducible refine eqE H ?_; clear H; intro e H; cases e)
   | (with_reducible refine rn_ok (lp0 E H ?_); clear E H; intro _ _ _ _ E H)
   | (with_reducible refine rn_ok (lp1 E H ?_); clear E H; intro _ _ _ _ _ E H)
   | (with_reducible refine rn_ok (lp2 E H ?_); clear E H; intro _ _ _ _ _ _ E H)
   | (with_reducible refine rn_ok (lp3 E H ?_); clear E H; intro _ _ _ _ _ _ _ E H)
   | (with_reducible refine rn_ok (lp4 E H ?_); clear E H; intro _ _ _ _ _ _ _ _ E H)
   | (with_reducible refine rn_ok (lp5 E H ?_); clear E H; intro _ _ _ _ _ _ _ _ _ E H)
   | (with_reducible refine rn_ok (lp7 E H ?_); clear E H; intro _ _ _ _ _ _ _ _ _ _ _ E H)
   | (with_reducible refine jn0 E H ?_ ?_; (clear E H; intro _ _ E H); rotate_left; (clear E H; intro _ E H); rotate_left)
   | (with_reducible refine jn1 E H ?_ ?_; (clear E H; intro _ _ _ E H); rotate_left; (clear E H; intro _ E H); rotate_left)
   | (with_reducible refine jn2 E H ?_ ?_; (clear E H; intro _ _ _ _ E H); rotate_left; (clear E H; intro _ E H); rotate_left))
  (ho:Eva.orc g args h=none:=by kernel_rfl) (hb:fn.body=some (cbody fn):=by kernel_rfl) (hn:Nat.ble args.length fn.ntmps=true:=by kernel_rfl) (hN:fn.ntmps=N:=by kernel_rfl) (hrs:fn.results.toList=rs:=by kernel_rfl):WC P g args h Q:=by
 refine WC.enter ho hf hb (Nat.le_of_ble_eq_true hn) ((K H ⟨fn.ntmps,frame 0 args .nil⟩ ⟨hN,?_⟩).mono fun e fr' h'=>?_)
 ·funext k
  show (frame 0 args .nil).get k=_
  rw [frame_getF,if_pos (Nat.zero_le _),Nat.sub_zero,Tr.get_nil]
  cases aF args k <;> rfl
 ·rintro ⟨F',hs',q⟩
  cases e with
  | exit i=>exact q.elim
  | normal=>
   obtain ⟨vs,h1,h2⟩:=q
   exact ⟨vs,by rw [hrs]; exact h1.ok hs',h2⟩
  | ret=>
   obtain ⟨vs,h1,h2⟩:=q
   exact ⟨vs,by rw [hrs]; exact h1.ok hs',h2⟩
end
end
end Eva
end
section
open Go Go.RowKit
namespace Eva
abbrev CL (g:FuncId) (args:List Value) (h:AH) (R:Value→AH→Prop):Prop:=WC Tryz.prog g args h R
abbrev CU (g:FuncId) (args:List Value) (h:AH) (R:AH→Prop):Prop:=CL g args h fun v h2=>v = .tuple #[]∧R h2
abbrev CB (g:FuncId) (args:List Value) (h:AH) (R:Bool→AH→Prop):Prop:=CL g args h fun v h2=>∃ b,v = .bool b∧R b h2
abbrev CI (g:FuncId) (args:List Value) (h:AH) (R:Int→AH→Prop):Prop:=CL g args h fun v h2=>∃ x,v = .int .i64 x∧R x h2
abbrev CP (g:FuncId) (args:List Value) (h:AH) (R:Option Addr→AH→Prop):Prop:=CL g args h fun v h2=>∃ p,v = .pointer p∧R p h2
abbrev CS (g:FuncId) (args:List Value) (h:AH) (R:Option Addr→Nat→Nat→AH→Prop):Prop:=CL g args h fun v h2=>∃ A n K,v = .slice A n K∧R A n K h2
end Eva
end
end Go.Proofs.YteffnclboadalaaGreatDoor
