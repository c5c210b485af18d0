/-
Lemmas for TopAlone. No condition.
-/
import Derived.Test.YtaagdjkinbemcaaGreatDoorPz
import Derived.WalkKit
import Derived.ProofKit
import Derived.Laws.BytesString
import Derived.Laws.Tables
import Derived.IntWalk
import Derived.Laws.IdiomCopy
namespace Go.Proofs.YtaagdjkinbemcaaGreatDoor
open _root_.Go.Value renaming pointer->ξ,slice->ψ
open _root_.Option renaming none->ω,some->Y
set_option linter.unusedVariables false
set_option linter.unusedSimpArgs false
set_option linter.unusedSectionVars false
set_option linter.unnecessarySimpa false
section
open Go Go.RowKit
namespace Eva
inductive Tr (α:Type) where
 | nil
 | node (l:Tr α) (v:Option α) (r:Tr α)
noncomputable section
def Kq {α:Type}(v:Option α) (gl gr:Nat->Option α):Nat->Option α
 | 0=>v
 | k+1=>cond (Nat.beq (k % 2) 0) (gl (k / 2)) (gr (k / 2))
def Tr.get {α:Type}(t:Tr α):Nat->Option α:=
 Tr.rec (motive:=λ_=>Nat->Option α) (λ_=>ω) (λ_ v _ gl gr k=>Kq v gl gr k) t
def CY {α:Type}(x:Option α) (ih:Tr α->Nat->Tr α):Nat->Tr α
 | 0=>.node .nil x .nil
 | k+1=>cond (Nat.beq (k % 2) 0) (.node (ih .nil (k / 2)) ω .nil) (.node .nil ω (ih .nil (k / 2)))
def CZ {α:Type}(x:Option α) (ih:Tr α->Nat->Tr α) (l:Tr α) (v:Option α) (r:Tr α):Nat->Tr α
 | 0=>.node l x r
 | k+1=>cond (Nat.beq (k % 2) 0) (.node (ih l (k / 2)) v r) (.node l v (ih r (k / 2)))
def rx {α:Type}(x:Option α) (ih:Tr α->Nat->Tr α) (t:Tr α) (k:Nat):Tr α:=
 match t with
 | .nil=>CY x ih k
 | .node l v r=>CZ x ih l v r k
def Tr.setF {α:Type}(x:Option α) (f:Nat):Tr α->Nat->Tr α:=
 Nat.rec (motive:=λ_=>Tr α->Nat->Tr α) (λt _=>t) (λ_ ih t k=>rx x ih t k) f
def Tr.set {α:Type}(t:Tr α) (k:Nat) (x:Option α):Tr α:=Tr.setF x (k+1) t k
inductive AO where
 | cells (c:List Value) (elem:TypeId) (fr:Bool)
 | map (es:List (Value×Value×Nat)) (clock:Nat)
 | iter (s:ByteArray) (pos:Nat)
structure AH where
 next:Nat
 t:Tr AO
def AH.get (h:AH) (n:Nat):Option AO:=h.t.get n
def AH.put (h:AH) (n:Nat) (o:AO):AH:=⟨h.next,h.t.set n (Y o)⟩
def AH.del (h:AH) (n:Nat):AH:=⟨h.next,h.t.set n ω⟩
def AH.new (h:AH) (o:AO):AH:=⟨h.next+1,h.t.set h.next (Y o)⟩
structure Fr where
 n:Nat
 t:Tr Value
def Fr.get (fr:Fr) (d:Nat):Option Value:=fr.t.get d
def Fr.put (fr:Fr) (d:Nat) (v:Value):Fr:=cond (Nat.blt d fr.n) ⟨fr.n,fr.t.set d (Y v)⟩ fr
def cv:Option Value->Value
 | some v=>v
 | none=>undef
def ev (fr:Fr):Operand->Value
 | .tmp t=>cv (fr.get t)
 | .const v=>v
 | .global g=>ξ (Y ⟨g,0,ω⟩)
 | .func f=>.func (.func f) #[] #[]
def aV {α:Type}(p:α->Bool) (l:List α):Bool:=List.rec (motive:=λ_=>Bool) true (λx _ ih=>cond (p x) ih false) l
def de (ih:Value->Bool):Value->Bool
 | .bool _ | .int _ _ | .float _ _ | .complex _ _ _ | .string _ | .nilFunc | .nilIface=>true
 | ξ ω | ψ ω 0 0 | .map ω | .chan ω=>true
 | .func _ f c=>cond (aV ih f.toList) (aV ih c.toList) false
 | .iface _ v=>ih v
 | .agg cs | .tuple cs=>aV ih cs.toList
 | _=>false
def plain (n:Nat):Value->Bool:=Nat.rec (motive:=λ_=>Value->Bool) (λ_=>false) (λ_ ih v=>de ih v) n
def pl (v:Value):Bool:=plain 6 v
def ry (ih:Value->Value->Bool):List Value->List Value->Bool
 | [],[]=>true
 | x :: xs,y :: ys=>cond (ih x y) (ry ih xs ys) false
 | _,_=>false
def mN (a b:Addr):Bool:=cond (Nat.beq a.block b.block) (cond (Nat.beq a.off b.off) (match a.spot,b.spot with | none,ω=>true | some i,Y j=>Nat.beq i j | _,_=>false) false) false
def oU (ih:Value->Value->Bool) (u v:Value):Bool:=
 match u,v with
  | .bool a,.bool b=>a == b
  | .int k a,.int l b=>k == l && a == b
  | .string a,.string b=>a.data.toList == b.data.toList
  | ξ ω,ξ ω=>true
  | ξ (Y a),ξ (Y b)=>mN a b
  | ψ ω l c,ψ ω m d=>Nat.beq l m && Nat.beq c d
  | .slice (Y a) l c,.slice (Y b) m d=>mN a b && Nat.beq l m && Nat.beq c d
  | .map ω,.map ω=>true
  | .map (Y a),.map (Y b)=>Nat.beq a b
  | .nilFunc,.nilFunc=>true
  | .nilIface,.nilIface=>true
  | .iface t a,.iface s b=>Nat.beq t s && ih a b
  | .agg a,.agg b=>ry ih a.toList b.toList
  | .tuple a,.tuple b=>ry ih a.toList b.toList
  | .func (.func a) f c,.func (.func b) f' c'=>Nat.beq a b && ry ih f.toList f'.toList && ry ih c.toList c'.toList
  | _,_=>false
def EY (n:Nat):Value->Value->Bool:=Nat.rec (motive:=λ_=>Value->Value->Bool) (λ_ _=>false) (λ_ ih u v=>oU ih u v) n
def av {α:Type}(P:Program) (s:Sem α):Option α:=
 Sem.rec (motive:=λ_=>Option α) (λa=>Y a) (λ_ _ _ _=>ω) (λ_ _ _ _ _=>ω) (λ_ _ _=>ω) (λ_ _ _=>ω) (λ_ _ _ _=>ω)
  (λ_ _ _=>ω) (λ_ _ _=>ω) (λ_ _ _ _=>ω) (λ_ _ _=>ω) (λ_ _ _=>ω) (λ_ ih=>ih P) (λ_ _ ih=>ih) (λ_=>ω) s
def iX:TypeDesc->Bool
 | .struct _ | .array _ _=>true
 | _=>false
def pI (l:List Value) (o n:Nat):Option (List Value):=
 let r:=(l.drop o).take n
 cond (Nat.beq r.length n) (Y r) ω
def vC (d:TypeDesc) (i:TypeInfo) (c:List Value) (o:Nat):Option Value:=
 cond (iX d) ((pI c o i.size).map λl=>.agg l.toArray) c[o]?
def gY (P:Program) (t:TypeId) (c:List Value) (o:Nat):Option Value:=
 match P.underlying t,P.info? t with
 | some d,Y i=>vC d i c o
 | _,_=>ω
def iQ:List Value->Nat->List Value->Option (List Value)
 | c,_,[]=>Y c
 | [],_,_ :: _=>ω
 | _ :: c,0,v :: vs=>(iQ c 0 vs).map (v :: ·)
 | x :: c,o+1,vs=>(iQ c o vs).map (x :: ·)
def flat:Value->Bool
 | .agg _ | .tuple _=>false
 | .chan (Y _)=>false
 | _=>true
def rz:Value:=.chan (Y 0)
def Hj:Value->Bool
 | .bool _=>false
 | _=>true
def GI:Value->Bool
 | .chan (Y _)=>false
 | _=>true
def a8 (h:AH) (n:Nat):Option (List Value×TypeId×Bool):=
 match h.get n with
 | some (.cells c e f)=>Y (c,e,f)
 | _=>ω
def jW (h:AH) (a:Addr) (n:Nat):Option (List Value):=
 match a.spot,a8 h a.block with
 | none,Y (c,_,_)=>pI c a.off n
 | _,_=>ω
def fM (h:AH) (size n:Nat):Value->Option (List Value)
 | .slice (Y a) _ _=>cond (Nat.beq (n*size) 0) (Y []) (jW h a (n*size))
 | ψ ω _ _=>Y []
 | .string s=>Y ((s.data.toList.take n).map λb=>.int .u8 b.toNat)
 | _=>ω
def C0:Value->Option Nat
 | ψ _ n _=>Y n
 | .string s=>Y s.size
 | _=>ω
def bW:Value->Option Nat
 | .int _ (.ofNat n)=>Y n
 | _=>ω
def cx (c:Nat):Nat:=2*c
def cl (c:Nat):Nat:=2*c+1
def eS:Value:=ψ (Y ⟨0,0,Y 0⟩) 0 1
def fN:List Value->Option (List UInt8)
 | []=>Y []
 | .int .u8 (.ofNat n) :: r=>(fN r).map (n.toUInt8 :: ·)
 | _=>ω
def og (a:Option Addr) (c low size:Nat):Option Addr:=cond (Nat.beq c low) a (a.map (·.add (low*size)))
def mO (size:Nat) (a:Option Addr) (c low h:Nat):Value:=.slice (og a c low size) (h - low) (cx (c - low))
def mP (size:Nat) (a:Option Addr) (c low h:Nat):Value:=
 cond (Nat.blt low c) (.slice (a.map (·.add (low*size))) (h - low) (cl (c - low))) eS
def bS (size:Nat) (a:Option Addr) (len K low:Nat) (high max:Option Nat):Option Value:=
 match max with
 | some m=>cond (Nat.ble m (K / 2) && Nat.ble (high.getD len) m && Nat.ble low (high.getD len)) (Y (mO size a m low (high.getD len))) ω
 | none=>cond (Nat.ble (high.getD len) (K / 2) && Nat.ble low (high.getD len))
   (Y (cond (Nat.beq (K % 2) 0) (mO size a (K / 2) low (high.getD len)) (mP size a (K / 2) low (high.getD len)))) ω
def iY (fr:Fr):Option Operand->Option (Option Nat)
 | none=>Y ω
 | some x=>(bW (ev fr x)).map Y
def ll:Option Next->Option Value
 | some (.value v)=>cond (pl v) (Y v) ω
 | _=>ω
def Cy (P:Program) (o:Oper) (fr:Fr):Option Value:=
 cond (aV (λx=>pl (ev fr x)) o.op.operands.toList) (ll (av P (execOp (ev fr) o))) ω
def C1 (c a b:Value):Option Value:=
 match c with
 | .bool t=>Y (cond t a b)
 | _=>ω
def iK (P:Program) (t:TypeId) (x:Value) (h:AH):Option Value:=
 match x with
 | ξ (Y a)=>match a.spot,a8 h a.block with
  | none,Y (c,_,_)=>gY P t c a.off
  | _,_=>ω
 | _=>ω
def Fi (x:Value):Option Value:=
 match x with
 | ξ (Y a)=>Y (ξ (Y a))
 | .func (.func f) a b=>Y (.func (.func f) a b)
 | .iface t v=>Y (.iface t v)
 | _=>ω
def tM (P:Program) (t:TypeId) (x:Value):Option Value:=
 match P.underlying t with
 | some (.interface _)=>ω
 | some _=>Y (.iface t x)
 | none=>ω
def am (P:Program) (e:TypeId) (a:Option Addr) (len K:Nat) (l:Option Nat) (hh m:Option Nat):Option Value:=
 match P.info? e with
 | some i=>match a with
  | none=>cond (Nat.beq len 0 && Nat.beq K 0 && Nat.beq (l.getD 0) 0 && Nat.beq (hh.getD 0) 0 && Nat.beq (m.getD 0) 0 && (m.isNone || hh.isSome)) (Y (ψ ω 0 0)) ω
  | some b=>match b.spot with
   | none=>cond (m.isNone || hh.isSome) (bS i.size a len K (l.getD 0) hh m) ω
   | some _=>ω
 | none=>ω
def tN (P:Program) (n:Nat) (e:TypeId) (b:Addr) (l:Option Nat) (hh:Option Nat):Option Value:=
 match P.info? e,b.spot with
 | some i,ω=>bS i.size (Y b) n (cx n) (l.getD 0) hh ω
 | _,_=>ω
def xV (P:Program) (o:Oper) (fr:Fr) (d:Option TypeDesc) (x:Value) (lo hi mx:Option (Option Nat)):Option Value:=
 match x with
 | .string _=>Cy P o fr
 | .slice a len K=>match d,lo,hi,mx with
  | some (.slice e),Y l,Y hh,Y m=>am P e a len K l hh m
  | _,_,_,_=>ω
 | ξ (Y b)=>match d,lo,hi,mx with
  | some (.array n e),Y l,Y hh,Y ω=>tN P n e b l hh
  | _,_,_,_=>ω
 | _=>ω
def gZ (P:Program) (d:Option TypeDesc) (x:Value) (f:Nat):Option Value:=
 match d,x with
 | some (.struct fields),ξ (Y a)=>match fields[f]?,a.spot with
  | some fd,ω=>match P.info? fd.type with
   | some i=>cond (Nat.beq i.size 0) ω (Y (ξ (Y (a.add fd.offset))))
   | none=>ω
  | _,_=>ω
 | _,_=>ω
def tP (P:Program) (d:Option TypeDesc) (x:Value) (f:Nat):Option Value:=
 match d,x with
 | some (.struct fields),.agg cs=>match fields[f]? with
  | some fd=>gY P fd.type cs.toList fd.offset
  | none=>ω
 | _,_=>ω
def idx (P:Program) (e:TypeId) (a:Addr) (len i:Nat):Option Value:=
 match P.info? e,a.spot with
 | some inf,ω=>cond (Nat.blt i len) (Y (ξ (Y (a.add (i*inf.size))))) ω
 | _,_=>ω
def dV (P:Program) (d:Option TypeDesc) (x:Value) (i:Option Nat):Option Value:=
 match d,x,i with
 | some (.slice e),.slice (Y a) len _,Y i=>idx P e a len i
 | some (.array n e),ξ (Y a),Y i=>idx P e a n i
 | _,_,_=>ω
def tQ (P:Program) (d:Option TypeDesc) (x:Value) (i:Option Nat):Option Value:=
 match d,x,i with
 | some (.array n e),.agg cs,Y i=>match P.info? e with
  | some inf=>cond (Nat.blt i n) (gY P e cs.toList (i*inf.size)) ω
  | none=>ω
 | some .string,.string s,Y i=>match s.data.toList[i]? with
  | some b=>Y (.int .u8 b.toNat)
  | none=>ω
 | _,_,_=>ω
def lq (x:Value) (i:Nat):Option Value:=
 match x with
 | .tuple vs=>vs.toList[i]?
 | _=>ω
def pJ (i:Nat) (v:Value) (more:Option (Option (Nat×Value))):Option Bool->Option (Option (Nat×Value))
 | some true=>Y (Y (i,v))
 | some false=>more
 | none=>ω
def gv (P:Program) (kt:TypeId) (k:Value) (l:List (Value×Value×Nat)):Nat->Option (Option (Nat×Value)):=
 List.rec (motive:=λ_=>Nat->Option (Option (Nat×Value))) (λ_=>cond (pl k) (Y ω) ω)
  (λe _ ih i=>cond (pl k && pl e.1) (pJ i e.2.1 (ih (i+1)) (av P (Op.equal kt k e.1))) ω) l
def lr (h:AH):Option Nat->Option (List (Value×Value×Nat))
 | none=>Y []
 | some n=>match h.get n with
  | some (.map es _)=>Y es
  | _=>ω
def tR (ok:Bool) (z:Option Value):Option (Option (Nat×Value))->Option Value
 | some (Y (_,v))=>Y (cond ok (.tuple #[v,.bool true]) v)
 | some ω=>match z with
  | some z=>cond (pl z) (Y (cond ok (.tuple #[z,.bool false]) z)) ω
  | none=>ω
 | none=>ω
def lw (P:Program) (kt:TypeId) (empty:Bool) (k:Value):Bool:=
 match av P (Instr.checkKey empty 10000 kt k) with
 | some _=>true
 | none=>false
def bp (P:Program) (d:Option TypeDesc) (x k:Value) (ok:Bool) (h:AH):Option Value:=
 match d,x with
 | some (.map kt e),.map r=>match lr h r,P.info? e with
  | some es,Y i=>cond (pl k && lw P kt es.isEmpty k) (tR ok i.zero (gv P kt k es 0)) ω
  | _,_=>ω
 | _,_=>ω
def pK:Option TypeDesc->Bool
 | some (.interface _)=>true
 | _=>false
def xW:Option TypeDesc->Bool
 | some (.pointer _)=>true
 | _=>false
def cV:Option TypeDesc->Bool
 | some (.slice _)=>true
 | _=>false
def tS:Option TypeDesc->Bool
 | some (.func _ _ _)=>true
 | _=>false
def hU:Option TypeDesc->Bool
 | some (.map _ _)=>true
 | _=>false
def lx (d:Option TypeDesc) (x y:Value):Bool:=
 match x,y with
 | .iface _ _,.nilIface | .nilIface,.iface _ _=>pK d
 | ξ (Y _),ξ ω | ξ ω,ξ (Y _)=>xW d
 | .slice (Y _) _ _,ψ ω _ _=>cV d
 | .func _ _ _,.nilFunc=>tS d
 | .map (Y _),.map ω=>hU d
 | _,_=>false
def C2 (op:BinOp) (P:Program) (o:Oper) (fr:Fr):Bool->Option Value
 | true=>match op with
  | .eql=>Y (.bool false)
  | .neq=>Y (.bool true)
  | _=>ω
 | false=>Cy P o fr
def sd (op:BinOp) (k:IntKind) (a b:Int) (other:Option Value):Option Value:=
 match op with
 | .add=>Y (.int k (k.wrap (a+b)))
 | .sub=>Y (.int k (k.wrap (a - b)))
 | .mul=>Y (.int k (k.wrap (a*b)))
 | .eql=>Y (.bool (a == b))
 | .neq=>Y (.bool (a != b))
 | .lss=>Y (.bool (decide (a<b)))
 | .leq=>Y (.bool (decide (a<=b)))
 | .gtr=>Y (.bool (decide (b<a)))
 | .geq=>Y (.bool (decide (b<=a)))
 | _=>other
def Hk (P:Program) (op:BinOp) (t:TypeId) (o:Oper) (fr:Fr) (x y:Value):Option Value:=
 match x,y with
 | .int k a,.int l b=>cond (k == l) (sd op k a b (Cy P o fr)) (Cy P o fr)
 | _,_=>C2 op P o fr (lx (P.underlying t) x y)
def kj (h:AH) (r:Nat):Option Value:=
 match h.get r with
 | some (.map es _)=>Y (.int .i64 es.length)
 | _=>ω
def AS (P:Program) (o:Oper) (fr:Fr) (h:AH) (d:Option TypeDesc) (x:Value):Option Value:=
 match x with
 | ψ _ n _=>cond (cV d) (Y (.int .i64 n)) ω
 | .map (Y r)=>cond (hU d) (kj h r) ω
 | .string s=>match d with
  | some .string=>Y (.int .i64 s.size)
  | _=>ω
 | _=>ω
def xX (d:Option TypeDesc) (x:Value):Option Value:=
 match x with
 | ψ _ _ K=>cond (cV d && Nat.beq (K % 2) 0) (Y (.int .i64 (K / 2:Nat))) ω
 | _=>ω
def xY (c:Call) (fr:Fr):Option Value:=
 match c.args.toList with
 | [x]=>Y (ev fr x)
 | _=>ω
def fF (P:Program) (c:Call):Option TypeDesc:=
 match c.argTypes.toList with
 | t :: _=>P.underlying t
 | []=>ω
def pL (P:Program) (o:Oper) (fr:Fr) (h:AH) (c:Call):Option Value:=
 match c.callee with
 | .builtin .len=>match xY c fr with
  | some x=>AS P o fr h (fF P c) x
  | none=>ω
 | .builtin .cap=>match xY c fr with
  | some x=>xX (fF P c) x
  | none=>ω
 | _=>Cy P o fr
def C3 (place:Nat->Option (Nat×Nat)) (ih:List Value->Option Value) (cells:List Value) (p:Nat×Value):Option Value:=
 match place p.1 with
 | some (off,size)=>cond (GI p.2 && (Nat.beq p.2.cells.toList.length size && Nat.ble (off+size) cells.length)) (match iQ cells off p.2.cells.toList with
   | some c=>ih c
   | none=>ω) ω
 | none=>ω
def vD (place:Nat->Option (Nat×Nat)) (l:List (Nat×Value)):List Value->Option Value:=
 List.rec (motive:=λ_=>List Value->Option Value) (λcells=>Y (.agg cells.toArray)) (λp _ ih cells=>C3 place ih cells p) l
def fieldAt (P:Program) (fields:Array Field) (k:Nat):Option (Nat×Nat):=
 match fields[k]? with
 | some f=>match P.info? f.type with
  | some i=>Y (f.offset,i.size)
  | none=>ω
 | none=>ω
def parts (fr:Fr) (ps:Array (Nat×Operand)):List (Nat×Value):=ps.toList.map λp=>(p.1,ev fr p.2)
def C4 (P:Program) (fields:Array Field):Bool:=aV (λf=>(P.info? f.type).isSome) fields.toList
def tU (P:Program) (d:Option TypeDesc) (i:Option TypeInfo) (ps:List (Nat×Value)):Option Value:=
 match d,i with
 | some (.struct fields),Y i=>match i.zero with
  | some z=>cond (C4 P fields && pl z) (vD (fieldAt P fields) ps z.cells.toList) ω
  | none=>ω
 | some (.array _ e),Y i=>match i.zero,P.info? e with
  | some z,Y j=>cond (pl z) (vD (λk=>Y (k*j.size,j.size)) ps z.cells.toList) ω
  | _,_=>ω
 | _,_=>ω
def hY (h:AH) (a:Option Addr) (len:Nat):Option (List Value):=
 match a with
 | none=>Y []
 | some b=>cond (Nat.beq len 0) (Y []) (jW h b len)
def pM (P:Program) (o:Oper) (fr:Fr) (h:AH) (s d:TypeId) (x:Value):Option Value:=
 match x with
 | .slice a len _=>match P.underlying s,P.underlying d with
  | some (.slice e),Y .string=>match P.underlying e with
   | some (.int .u8)=>match hY h a len with
    | some l=>match fN l with
     | some bs=>Y (.string ⟨bs.toArray⟩)
     | none=>ω
    | none=>ω
   | _=>ω
  | _,_=>ω
 | _=>Cy P o fr
def pq (P:Program) (t:TypeId) (x:Value) (ok:Bool):Option Value:=
 match P.underlying t,x with
 | some (.interface _),_=>ω
 | some _,.iface u v=>cond (Nat.beq u t) (Y (cond ok (.tuple #[v,.bool true]) v)) ω
 | _,_=>ω
def rp (P:Program) (o:Oper) (fr:Fr) (h:AH):Option Value:=
 match o.op with
 | .move x=>Y (ev fr x)
 | .pick c a b=>C1 (ev fr c) (ev fr a) (ev fr b)
 | .load t x=>iK P t (ev fr x) h
 | .nilCheck x=>Fi (ev fr x)
 | .makeInterface t x=>tM P t (ev fr x)
 | .makeFunc fn a b=>Y (.func fn (a.map (ev fr)) (b.map (ev fr)))
 | .slice t x lo hi mx=>xV P o fr (P.underlying t) (ev fr x) (iY fr lo) (iY fr hi) (iY fr mx)
 | .fieldAddr s x f=>gZ P (P.underlying s) (ev fr x) f
 | .field t x f=>tP P (P.underlying t) (ev fr x) f
 | .indexAddr t x ix=>dV P (P.underlying t) (ev fr x) (bW (ev fr ix))
 | .index t x ix=>tQ P (P.underlying t) (ev fr x) (bW (ev fr ix))
 | .extract x i=>lq (ev fr x) i
 | .lookup t x ix ok=>bp P (P.underlying t) (ev fr x) (ev fr ix) ok h
 | .binOp op t x y _=>Hk P op t o fr (ev fr x) (ev fr y)
 | .call c=>pL P o fr h c
 | .build t ps=>tU P (P.underlying t) (P.info? t) (parts fr ps)
 | .convert s d x=>pM P o fr h s d (ev fr x)
 | .typeAssert x _ t ok=>pq P t (ev fr x) ok
 | .unOp _ _ _=>Cy P o fr
 | _=>ω
abbrev AT:=AO×(Nat->Value)
def zv (n:Nat):Value:=ξ (Y ⟨n,0,ω⟩)
def oV (l K n:Nat):Value:=ψ (Y ⟨n,0,ω⟩) l K
def ff (z:Value) (size:Nat):Bool:=Nat.beq z.cells.toList.length size && aV (λv=>pl v && flat v) z.cells.toList
def dD (n:Nat) (z:List Value):List Value:=Nat.rec (motive:=λ_=>List Value) [] (λ_ ih=>z ++ ih) n
def tV (t:TypeId):Option TypeInfo->Option AT
 | some i=>match i.zero with
  | some z=>cond (ff z i.size) (Y (.cells z.cells.toList t false,zv)) ω
  | none=>ω
 | none=>ω
def Fj (t:TypeId) (x:Value):Option AT:=cond (aV flat x.cells.toList) (Y (.cells x.cells.toList t false,zv)) ω
def se (e:TypeId) (len:Nat):Option Value->Option AT
 | some (.agg c)=>cond (aV flat c.toList) (Y (.cells c.toList e false,oV len (cx len))) ω
 | _=>ω
def fO (P:Program) (d:Option TypeDesc) (len:Nat) (ps:List (Nat×Value)):Option AT:=
 match d with
 | some (.slice e)=>match P.info? e with
  | some i=>match i.zero with
   | some z=>cond (Nat.blt (len*i.size) 4000 && ff z i.size)
    (se e len (vD (λk=>Y (k*i.size,i.size)) ps (dD len z.cells.toList))) ω
   | none=>ω
  | none=>ω
 | _=>ω
def Fk (d:Option TypeDesc) (r:Option Value):Option AT:=
 match d,r with
 | some (.map _ _),ω=>Y (.map [] 0,λn=>.map (Y n))
 | some (.map _ _),Y x=>match bW x with
  | some _=>Y (.map [] 0,λn=>.map (Y n))
  | none=>ω
 | _,_=>ω
def zw (e:TypeId) (l c:Nat):Option TypeInfo->Option AT
 | some i=>match i.zero with
  | some z=>cond (Nat.ble l c && Nat.blt c 1000000 && Nat.blt i.bytes 10000 && ff z i.size)
    (Y (.cells (dD c z.cells.toList) e false,oV l (cx c))) ω
  | none=>ω
 | none=>ω
def fg (P:Program) (d:Option TypeDesc) (l c:Option Nat):Option AT:=
 match d,l,c with
 | some (.slice e),Y l,Y c=>zw e l c (P.info? e)
 | _,_,_=>ω
def tW (P:Program) (s d:Option TypeDesc) (x:Value):Option AT:=
 match s,d,x with
 | some .string,Y (.slice e),.string b=>match P.underlying e,P.info? e with
  | some (.int .u8),Y i=>cond (Nat.beq i.size 1) (Y (.cells (b.data.toList.map λb=>.int .u8 b.toNat) e false,oV b.size (cl b.size))) ω
  | _,_=>ω
 | _,_,_=>ω
def tX (d:Option TypeDesc) (x:Value):Option AT:=
 match d,x with
 | some .string,.string s=>Y (.iter s 0,zv)
 | _,_=>ω
def AU (P:Program) (o:Oper) (fr:Fr):Option AT:=
 match o.op with
 | .alloc t=>tV t (P.info? t)
 | .box t x=>Fj t (ev fr x)
 | .buildSlice t len ps=>fO P (P.underlying t) len (parts fr ps)
 | .makeMap t r=>Fk (P.underlying t) (r.map (ev fr))
 | .makeSlice t l c=>fg P (P.underlying t) (bW (ev fr l)) (bW (ev fr c))
 | .convert s d x=>tW P (P.underlying s) (P.underlying d) (ev fr x)
 | .range t x=>tX (P.underlying t) (ev fr x)
 | _=>ω
def bM (h:AH) (a:Addr) (vs:List Value):Option AH:=
 match a.spot,h.get a.block with
 | none,Y (.cells c e false)=>cond (aV flat vs) (match iQ c a.off vs with
   | some c'=>Y (h.put a.block (.cells c' e false))
   | none=>ω) ω
 | _,_=>ω
def oW (k v:Value):List (Value×Value×Nat)->Nat->List (Value×Value×Nat)
 | [],_=>[]
 | (_,_,b) :: r,0=>(k,v,b) :: r
 | e :: r,i+1=>e :: oW k v r i
def jw (k:Value):Option (Value×Value×Nat)->Bool
 | some e=>Instr.sameBits 10000 e.1 k
 | none=>false
abbrev VH:=Value×AH
def ly (h:AH) (size:Nat) (base:Option Addr) (sl K n:Nat) (new:List Value):Option VH:=
 match base with
 | none=>cond (Nat.beq sl 0 && Nat.beq n 0 && Nat.beq K 0) (Y (ψ ω 0 0,h)) ω
 | some a=>match a.spot with
  | none=>cond (Nat.beq n 0) (Y (.slice base sl K,h)) (match bM h (a.add (sl*size)) new with
   | some h'=>Y (.slice base (sl+n) K,h')
   | none=>ω)
  | some _=>ω
def fZ (h:AH) (e:TypeId) (size:Nat) (base:Option Addr) (sl K n:Nat) (new:List Value):Option VH:=
 match base with
 | none=>cond (Nat.beq sl 0 && Nat.beq K 0) (Y (oV n (cl n) h.next,h.new (.cells new e false))) ω
 | some a=>match a.spot,a8 h a.block with
  | none,Y (c,e0,f)=>match pI c a.off (sl*size) with
   | some old=>cond (Nat.beq (K % 2) 0)
     (Y (oV (sl+n) (cl (sl+n)) h.next,h.new (.cells (old ++ new) e false)))
     (cond (Nat.beq a.off 0 && !f && Nat.beq e0 e) (Y (oV (sl+n) (cl (sl+n)) h.next,(h.del a.block).new (.cells (old ++ new) e false))) ω)
   | none=>ω
  | _,_=>ω
def gz (i:TypeInfo):Bool:=
 match i.zero with
 | some z=>Nat.beq z.cells.toList.length i.size
 | none=>false
def AV (h:AH) (e:TypeId) (i:TypeInfo) (base:Option Addr) (sl K n:Nat) (new:List Value):Option VH:=
 cond (aV flat new && Nat.blt ((sl+n)*i.bytes) 70000000000000 && Nat.blt (sl+n) 70000000000000 && !(Nat.beq i.size 0) && Nat.beq new.length (n*i.size) && Nat.blt i.bytes 1000000 && gz i)
  (cond (Nat.ble (sl+n) (K / 2)) (ly h i.size base sl K n new) (fZ h e i.size base sl K n new)) ω
def pt (i:TypeInfo) (e:TypeId) (h:AH) (s:Value) (src:Option (Nat×List Value)):Option VH:=
 match s,src with
 | .slice base sl K,Y (n,new)=>AV h e i base sl K n new
 | _,_=>ω
def pN (h:AH) (size:Nat) (x:Value):Option (Nat×List Value):=
 match C0 x with
 | some n=>match fM h size n x with
  | some l=>Y (n,l)
  | none=>ω
 | none=>ω
def pu (i:TypeInfo) (n:Option Nat):Option (Nat×List Value):=
 match i.zero,n with
 | some z,Y n=>cond (Nat.blt n 70000000000000 && ff z i.size) (Y (n,dD n z.cells.toList)) ω
 | _,_=>ω
def pO:Option TypeDesc->Bool
 | some (.int _)=>true
 | _=>false
def ah (P:Program) (h:AH) (d d2:Option TypeDesc) (s x:Value):Option VH:=
 match d,d2 with
 | some (.slice e),Y t=>match P.info? e with
  | some i=>pt i e h s (cond (pO (Y t)) (pu i (bW x)) (pN h i.size x))
  | none=>ω
 | _,_=>ω
def fi (P:Program) (h:AH) (d:Option TypeDesc) (x:Value):Option VH:=
 match d,x with
 | some (.slice e),.slice (Y a) n _=>match P.info? e with
  | some i=>match i.zero with
   | some z=>cond (ff z i.size) (cond (Nat.beq n 0) (Y (.tuple #[],h)) (match bM h a (dD n z.cells.toList) with
     | some h'=>Y (.tuple #[],h')
     | none=>ω)) ω
   | none=>ω
  | none=>ω
 | _,_=>ω
def xZ (h:AH) (base:Option Addr) (l:List Value):Option AH:=
 match base with
 | none=>cond (Nat.beq l.length 0) (Y h) ω
 | some a=>cond (Nat.beq l.length 0) (Y h) (bM h a l)
def jX (P:Program) (h:AH) (d:Option TypeDesc) (x s:Value):Option VH:=
 match d,x,C0 s with
 | some (.slice e),.slice base dl _,Y sl=>match P.info? e with
  | some i=>match fM h i.size (cond (Nat.ble sl dl) sl dl) s with
   | some l=>match xZ h base l with
    | some h'=>Y (.int .i64 (cond (Nat.ble sl dl) sl dl:Nat),h')
    | none=>ω
   | none=>ω
  | none=>ω
 | _,_,_=>ω
def AW (P:Program) (c:Call):Option TypeDesc:=
 match c.argTypes.toList with
 | _ :: t :: _=>P.underlying t
 | _=>ω
def zx (c:Call) (fr:Fr):Option (Value×Value):=
 match c.args.toList with
 | [x,y]=>Y (ev fr x,ev fr y)
 | _=>ω
def mQ (h:AH) (i:Option TypeInfo) (x v:Value):Option VH:=
 match i,x with
 | some i,ξ (Y a)=>cond (Nat.beq v.cells.toList.length i.size) (match bM h a v.cells.toList with
   | some h'=>Y (undef,h')
   | none=>ω) ω
 | _,_=>ω
def C5 (h:AH) (r:Nat) (es:List (Value×Value×Nat)) (clock:Nat) (k v:Value):Option (Option (Nat×Value))->Option VH
 | some (Y (i,_))=>cond (jw k es[i]?) (Y (undef,h.put r (.map (oW k v es i) clock))) ω
 | some ω=>Y (undef,h.put r (.map (es ++ [(k,v,clock)]) (clock+1)))
 | none=>ω
def ej (P:Program) (h:AH) (d:Option TypeDesc) (m k v:Value):Option VH:=
 match d,m with
 | some (.map kt _),.map (Y r)=>match h.get r with
  | some (.map es clock)=>cond (pl k && lw P kt false k) (C5 h r es clock k v (gv P kt k es 0)) ω
  | _=>ω
 | _,_=>ω
def zy (P:Program) (h:AH) (s d:TypeId) (x:Value):Option VH:=
 match P.underlying s,P.underlying d,x with
 | some (.slice _),Y (.slice e),.slice (Y a) n K=>match P.underlying e,a.spot,a8 h a.block with
  | some (.int .u8),ω,Y (_,_,false)=>cond (Nat.beq s d) (Y (x,h)) ω
  | _,_,_=>ω
 | _,_,_=>ω
def GJ (P:Program) (fr:Fr) (h:AH) (c:Call):Option VH:=
 match c.callee with
 | .builtin .append=>match zx c fr with
  | some (s,x)=>ah P h (fF P c) (AW P c) s x
  | none=>ω
 | .builtin .clear=>match xY c fr with
  | some x=>fi P h (fF P c) x
  | none=>ω
 | .builtin .copy=>match zx c fr with
  | some (x,s)=>jX P h (fF P c) x s
  | none=>ω
 | _=>ω
def vE (P:Program) (o:Oper) (fr:Fr) (h:AH):Option VH:=
 match o.op with
 | .assign x=>Y (ev fr x,h)
 | .store t x v=>mQ h (P.info? t) (ev fr x) (ev fr v)
 | .mapUpdate t m k v=>ej P h (P.underlying t) (ev fr m) (ev fr k) (ev fr v)
 | .insert t m k v=>ej P h (P.underlying t) (ev fr m) (ev fr k) (ev fr v)
 | .convert s d x=>zy P h s d (ev fr x)
 | .call c=>GJ P fr h c
 | _=>ω
def bh (P:Program) (g:FuncId):Bool:=
 match P.funcs[g]? with
 | some fn=>fn.body.isSome && !(fn.name == "runtime.NumGoroutine")
 | none=>false
def zz (P:Program) (fr:Fr) (c:Call):Value->Option (FuncId×List Value)
 | .func (.func g) a b=>cond (bh P g) (Y (g,a.toList ++ c.args.toList.map (ev fr) ++ b.toList)) ω
 | _=>ω
def callee (P:Program) (o:Oper) (fr:Fr):Option (FuncId×List Value):=
 match o.op with
 | .call c=>match c.callee with
  | .value f=>zz P fr c (ev fr f)
  | _=>ω
 | _=>ω
inductive mJ where
 | normal
 | exit (id:Nat)
 | ret
def Ku (b:Bool):Option Value->Bool
 | some (.bool c)=>c == b
 | _=>false
def dE (ops:Array Oper) (fr:Fr) (o:Oper):Bool:=
 match o.guard with
 | none=>true
 | some (j,b)=>match ops[j]? with
  | some g=>match g.dst with
   | some d=>Ku b (fr.get d)
   | none=>false
  | none=>false
def dF (fr:Fr) (d:Option Tmp) (v:Value):Fr:=
 match d with
 | some d=>fr.put d v
 | none=>fr
inductive Kind where
 | val | lay | loud
def aI (P:Program) (o:Oper):Kind:=
 match o.op with
 | .alloc _ | .box _ _ | .buildSlice _ _ _ | .makeMap _ _ | .makeSlice _ _ _ | .range _ _=>.lay
 | .convert s d _=>match P.underlying s,P.underlying d with
  | some .string,Y (.slice _)=>.lay
  | some (.slice _),Y (.slice _)=>.loud
  | _,_=>.val
 | .assign _ | .store _ _ _ | .mapUpdate _ _ _ _ | .insert _ _ _ _=>.loud
 | .call c=>match c.callee with
  | .builtin .append | .builtin .copy | .builtin .clear | .value _=>.loud
  | .builtin _=>.val
  | _=>.loud
 | _=>.val
def bZ (P:Program) (o:Oper):Bool:=
 match aI P o with
 | .loud=>true
 | _=>false
def GK (P:Program) (o:Oper):Bool:=
 match aI P o with
 | .val=>true
 | _=>false
abbrev mL:=FuncId->List Value->AH->Option VH
abbrev FH:=Fr×AH
def C6 (fr:Fr) (h:AH) (d:Option Tmp):Option Value->Option FH
 | some v=>Y (dF fr d v,h)
 | none=>ω
def Fm (fr:Fr) (h:AH) (d:Option Tmp):Option AT->Option FH
 | some (b,f)=>Y (dF fr d (f h.next),h.new b)
 | none=>ω
def zA (fr:Fr) (d:Option Tmp):Option VH->Option FH
 | some (v,h)=>Y (dF fr d v,h)
 | none=>ω
def vF (P:Program) (call:mL) (o:Oper) (fr:Fr) (h:AH):Option (FuncId×List Value)->Option FH
 | some (g,args)=>zA fr o.dst (call g args h)
 | none=>C6 fr h o.dst (Cy P o fr)
def oq (P:Program) (call:mL) (o:Oper) (fr:Fr) (h:AH):Option VH->Option FH
 | some (v,h')=>Y (dF fr o.dst v,h')
 | none=>vF P call o fr h (callee P o fr)
def Kw (P:Program) (call:mL) (o:Oper) (fr:Fr) (h:AH):Kind->Option FH
 | .val=>C6 fr h o.dst (rp P o fr h)
 | .lay=>Fm fr h o.dst (AU P o fr)
 | .loud=>oq P call o fr h (vE P o fr h)
def eU:Operand->Bool
 | .const v=>pl v
 | .global _=>false
 | _=>true
def bT (o:Oper):Bool:=aV eU o.op.operands.toList
def jY (o:Oper):Bool:=
 match o.op with
 | .select _ _=>false
 | _=>true
def iW (P:Program) (call:mL) (ops:Array Oper) (o:Oper) (fr:Fr) (h:AH):Option FH:=
 cond (dE ops fr o) (cond (bT o) (Kw P call o fr h (aI P o)) ω) (Y (dF fr o.dst undef,h))
def andThen (k:Fr->AH->Option FH):Option FH->Option FH
 | some (fr,h)=>k fr h
 | none=>ω
def fj (P:Program) (call:mL) (ops:Array Oper) (l:List Oper):Fr->AH->Option FH:=
 List.rec (motive:=λ_=>Fr->AH->Option FH) (λfr h=>Y (fr,h)) (λo _ ih fr h=>andThen ih (iW P call ops o fr h)) l
def bX (o:Oper):List Nat:=(o.after.toList.filter λe=>Region.binds .any e).map (·.on)
def mem (x:Nat) (l:List Nat):Bool:=List.rec (motive:=λ_=>Bool) false (λy _ ih=>cond (Nat.beq x y) true ih) l
def EZ (ops:Array Oper):Nat->Nat->List Nat
 | 0,_=>[]
 | f+1,j=>match ops[j]? with
  | some o=>(bX o) ++ (bX o).flatMap (EZ ops f)
  | none=>[]
def ready (ops:Array Oper) (taken:List Nat) (j:Nat):Bool:=
 match ops[j]? with
 | some o=>aV (λx=>mem x taken) (bX o)
 | none=>false
def tY (P:Program) (ops:Array Oper) (taken:List Nat) (j:Nat):Bool:=
 cond (ready ops taken j) (match ops[j]? with | some o=>!bZ P o | none=>false) false
def sg (P:Program) (ops:Array Oper) (x:Nat):Bool:=
 match ops[x]? with
 | some o=>GK P o
 | none=>false
def dG (j:Nat) (l:List Nat):List Nat:=l.filter λx=>!(Nat.beq x j)
def plan (P:Program) (ops:Array Oper):Nat->List Nat->List Nat->Option (List (Nat×List Nat))
 | _,_,[]=>Y []
 | 0,_,_ :: _=>ω
 | f+1,taken,rest=>
  match rest.find? (tY P ops taken) with
  | some j=>(plan P ops f (j :: taken) (dG j rest)).map ((j,[]) :: ·)
  | none=>match rest.filter (ready ops taken) with
   | [j]=>(plan P ops f (j :: taken) (dG j rest)).map
     ((j,taken.filter λx=>!(mem x (EZ ops 12 j)) && sg P ops x) :: ·)
   | _=>ω
def C7 (o:Oper) (x:Oper) (ops:Array Oper):Bool:=
 match o.dst with
 | some d=>!(x.looksAt ops).contains d && x.dst != Y d
 | none=>true
def vG (P:Program) (ops:Array Oper) (j:Nat) (o:Oper) (i:Nat):Bool:=
 match ops[i]? with
 | some x=>bZ P x || x.apart ops o || (mem i (bX o) && (bZ P o || C7 o x ops))
 | none=>false
def km (P:Program) (ops:Array Oper) (before:List Nat) (j:Nat):Bool:=
 match ops[j]? with
 | some o=>before.all (vG P ops j o) && (bZ P o || match o.dst with | some d=>!(o.looksAt ops).contains d | none=>true)
 | none=>false
def lone (P:Program) (ops:Array Oper):List Nat->List Nat->Bool
 | _,[]=>true
 | before,j :: l=>km P ops before j && lone P ops (j :: before) l
def looks (P:Program):Op->Bool
 | .load _ _ | .lookup _ _ _ _=>true
 | .convert s d _=>match P.underlying s,P.underlying d with
  | some (.slice _),Y .string=>true
  | _,_=>false
 | .call c=>match c.callee with
  | .builtin .len=>hU (fF P c)
  | _=>false
 | _=>false
def jZ:Op->Bool
 | .assign _=>true
 | _=>false
def C8 (fr:Fr) (d:Option Tmp):Option Value->Bool
 | some v=>match d with
  | some d=>match fr.get d with
   | some u=>EY 6 u v
   | none=>false
  | none=>true
 | none=>false
def cn (P:Program) (ops:Array Oper) (fr:Fr) (h:AH) (j:Nat):Bool:=
 match ops[j]? with
 | some o=>cond (looks P o.op) (cond (dE ops fr o) (C8 fr o.dst (rp P o fr h)) true) true
 | none=>false
def zB (ops:Array Oper) (fr:Fr) (o:Oper) (again:List Nat):List Nat:=cond (dE ops fr o && !(jZ o.op)) again []
def sh (P:Program) (ops:Array Oper) (again:List Nat) (k:Fr->AH->Option FH):Option FH->Option FH
 | some (fr,h)=>cond (aV (cn P ops fr h) again) (k fr h) ω
 | none=>ω
def cw (P:Program) (call:mL) (ops:Array Oper) (j:Nat) (again:List Nat) (k:Fr->AH->Option FH) (fr:Fr) (h:AH):Option FH:=
 match ops[j]? with
 | some o=>sh P ops (zB ops fr o again) k (iW P call ops o fr h)
 | none=>ω
def drawn (P:Program) (call:mL) (ops:Array Oper) (l:List (Nat×List Nat)):Fr->AH->Option FH:=
 List.rec (motive:=λ_=>Fr->AH->Option FH) (λfr h=>Y (fr,h)) (λp _ ih fr h=>cw P call ops p.1 p.2 ih fr h) l
def eK (P:Program) (ops:Array Oper):Option (List (Nat×List Nat)):=
 match plan P ops ops.size [] (List.range ops.size) with
 | some l=>cond (lone P ops [] (l.map (·.1))) (Y l) ω
 | none=>ω
def Fq (P:Program) (t:TypeId) (h:AH) (x:Value) (more:Option (List Value)):Option (List Value):=
 match iK P t x h,more with
 | some v,Y vs=>Y (v :: vs)
 | _,_=>ω
def iZ (P:Program) (fr:Fr) (h:AH):List ResultVar->Option (List Value)
 | []=>Y []
 | .tmp t :: l=>(iZ P fr h l).map (cv (fr.get t) :: ·)
 | .cell a t :: l=>Fq P t h (cv (fr.get a)) (iZ P fr h l)
def one:List Value->Value
 | [v]=>v
 | vs=>.tuple vs.toArray
def frame:Nat->List Value->Tr Value->Tr Value
 | _,[],t=>t
 | i,v :: l,t=>frame (i+1) l (t.set i (Y v))
abbrev R:=Option (mJ×Fr×AH)
def ko (h:AH):Option (List Value)->Option VH
 | some vs=>Y (one vs,h)
 | none=>ω
def vH (P:Program) (fn:Func):R->Option VH
 | some (.normal,fr,h)=>ko h (iZ P fr h fn.results.toList)
 | some (.ret,fr,h)=>ko h (iZ P fr h fn.results.toList)
 | _=>ω
def vI (P:Program) (rc:Code->Fr->AH->R) (fn:Func) (args:List Value) (h:AH):Option VH:=
 match fn.body with
 | some c=>cond (Nat.ble args.length fn.ntmps) (vH P fn (rc c ⟨fn.ntmps,frame 0 args .nil⟩ h)) ω
 | none=>ω
def calls (P:Program) (rc:Code->Fr->AH->R) (f:FuncId) (args:List Value) (h:AH):Option VH:=
 match P.funcs[f]? with
 | some fn=>vI P rc fn args h
 | none=>ω
def Hl:Option FH->R
 | some (fr,h)=>Y (.normal,fr,h)
 | none=>ω
def IP (P:Program) (rc:Code->Fr->AH->R) (ops:Array Oper) (fr:Fr) (h:AH):Bool->R
 | true=>match eK P ops with
  | some l=>Hl (drawn P (calls P rc) ops l fr h)
  | none=>ω
 | false=>Hl (fj P (calls P rc) ops ops.toList fr h)
def iR (k:Fr->AH->R):R->R
 | some (.normal,fr,h)=>k fr h
 | r=>r
def i7 (id:Nat):R->R
 | some (.exit i,fr,h)=>cond (Nat.beq i id) (Y (.normal,fr,h)) (Y (.exit i,fr,h))
 | r=>r
def pP (a b:Unit->R):Value->R
 | .bool true=>a ()
 | .bool false=>b ()
 | _=>ω
def C9 (P:Program) (rc:Code->Fr->AH->R) (c:Code) (fr:Fr) (h:AH):R:=
 match c with
 | .skip=>Y (.normal,fr,h)
 | .label _=>Y (.normal,fr,h)
 | .region _ ops d=>IP P rc ops fr h d
 | .seq a b=>iR (rc b) (rc a fr h)
 | .cond x a b=>cond (eU x) (pP (λ_=>rc a fr h) (λ_=>rc b fr h) (ev fr x)) ω
 | .block id b=>i7 id (rc b fr h)
 | .loop b=>iR (rc (.loop b)) (rc b fr h)
 | .exit id=>Y (.exit id,fr,h)
 | .scope b=>rc b fr h
 | .ret=>Y (.ret,fr,h)
 | _=>ω
def code (P:Program) (n:Nat):Code->Fr->AH->R:=
 Nat.rec (motive:=λ_=>Code->Fr->AH->R) (λ_ _ _=>ω) (λ_ ih c fr h=>C9 P ih c fr h) n
end
end Eva
end
section
open Go Go.RowKit
namespace Eva
theorem Tr.get_nil {α:Type}(k:Nat):(Tr.nil:Tr α).get k=none:=rfl
theorem Tr.get_zero {α:Type}(l r:Tr α) (v:Option α):(Tr.node l v r).get 0=v:=rfl
theorem Tr.get_succ {α:Type}(l r:Tr α) (v:Option α) (k:Nat):(Tr.node l v r).get (k+1)=cond (Nat.beq (k % 2) 0) (l.get (k / 2)) (r.get (k / 2)):=rfl
theorem Tr.setF_succ {α:Type}(x:Option α) (f:Nat) (t:Tr α) (k:Nat):Tr.setF x (f+1) t k=rx x (Tr.setF x f) t k:=rfl
theorem Tr.get_setF_same {α:Type}{x:Option α}:∀(f:Nat) (t:Tr α) (k:Nat),k<f->(Tr.setF x f t k).get k=x:=by
 intro f
 induction f with
 | zero=>intro t k h;omega
 | succ f ih=>
  intro t k h;rw[Tr.setF_succ];cases t with
  | nil=>
   cases k with
   | zero=>rfl
   | succ k=>
    have h2:=ih .nil (k / 2) U;cases hb:Nat.beq (k % 2) 0 <;>simp only[rx,CY,hb,cond_true,cond_false,Tr.get_succ] <;>exact h2
  | node l v r=>
   cases k with
   | zero=>rfl
   | succ k=>
    have h2:=ih l (k / 2) U;have h3:=ih r (k / 2) U;cases hb:Nat.beq (k % 2) 0 <;>simp only[rx,CZ,hb,cond_true,cond_false,Tr.get_succ] <;>assumption
theorem Tr.get_setF_ne {α:Type}{x:Option α}:∀(f:Nat) (t:Tr α) (k j:Nat),k≠j->(Tr.setF x f t k).get j=t.get j:=by
 intro f
 induction f with
 | zero=>intro t k j h;rfl
 | succ f ih=>
  intro t k j h;rw[Tr.setF_succ];cases t with
  | nil=>
   cases k with
   | zero=>
    cases j with
    | zero=>exact absurd rfl h
    | succ j=>cases hb:Nat.beq (j % 2) 0 <;>simp[rx,CY,Tr.get_succ,Tr.get_nil,hb]
   | succ k=>
    cases j with
    | zero=>cases hb:Nat.beq (k % 2) 0 <;>simp[rx,CY,Tr.get_zero,Tr.get_nil,hb]
    | succ j=>
     have h2:k / 2≠j / 2\/k % 2≠j % 2:=U;cases hb:Nat.beq (k % 2) 0 <;>cases hc:Nat.beq (j % 2) 0 <;>simp only[rx,CY,hb,hc,cond_true,cond_false,Tr.get_succ,Tr.get_nil]
     .have e1:=Nat.ne_of_beq_eq_false hb;have e2:=Nat.ne_of_beq_eq_false hc;rw[ih _ _ _ U];rfl
     .have e1:=Nat.eq_of_beq_eq_true hb;have e2:=Nat.eq_of_beq_eq_true hc;rw[ih _ _ _ U];rfl
  | node l v r=>
   cases k with
   | zero=>
    cases j with
    | zero=>exact absurd rfl h
    | succ j=>cases hb:Nat.beq (j % 2) 0 <;>simp[rx,CZ,Tr.get_succ,hb]
   | succ k=>
    cases j with
    | zero=>cases hb:Nat.beq (k % 2) 0 <;>simp[rx,CZ,Tr.get_zero,hb]
    | succ j=>
     have h2:k / 2≠j / 2\/k % 2≠j % 2:=U;cases hb:Nat.beq (k % 2) 0 <;>cases hc:Nat.beq (j % 2) 0 <;>simp only[rx,CZ,hb,hc,cond_true,cond_false,Tr.get_succ]
     .have e1:=Nat.ne_of_beq_eq_false hb;have e2:=Nat.ne_of_beq_eq_false hc;rw[ih _ _ _ U]
     .have e1:=Nat.eq_of_beq_eq_true hb;have e2:=Nat.eq_of_beq_eq_true hc;rw[ih _ _ _ U]
theorem Tr.get_set {α:Type}(t:Tr α) (k:Nat) (x:Option α):(t.set k x).get k=x:=Tr.get_setF_same _ _ _ (Nat.lt_succ_self k)
theorem Tr.get_set_ne {α:Type}(t:Tr α){k j:Nat}(x:Option α) (h:k≠j):(t.set k x).get j=t.get j:=Tr.get_setF_ne _ _ _ _ h
structure aH where
 b:Nat->Option Nat
 e:Nat->Nat
instance:CoeFun aH (λ_=>Nat->Option Nat):=⟨aH.b⟩
def CR (K c:Nat):Prop:=(K % 2=0->c=K / 2)/\(K % 2=1->K / 2<=c)
theorem CR.cx (c:Nat):CR (cx c) c:=⟨λ_=>by unfold Eva.cx;omega,λh=>by unfold Eva.cx at h;omega⟩
theorem CR.cl {c d:Nat}(h:c<=d):CR (cl c) d:=⟨λh=>by unfold Eva.cl at h;omega,λ_=>by unfold Eva.cl;omega⟩
theorem CR.le {K c:Nat}(h:CR K c):K / 2<=c:=by
 rcases Nat.mod_two_eq_zero_or_one K with e | e
 .rw[h.1 e];omega
 .exact h.2 e
inductive VR (σ:aH):Value->Value->Prop
 | bool (b:Bool):VR σ (.bool b) (.bool b)
 | int (k:IntKind) (n:Int):VR σ (.int k n) (.int k n)
 | float (k:FloatKind) (n:Nat):VR σ (.float k n) (.float k n)
 | complex (k:FloatKind) (a b:Nat):VR σ (.complex k a b) (.complex k a b)
 | string (s:ByteArray):VR σ (.string s) (.string s)
 | ptr0:VR σ (ξ ω) (ξ ω)
 | ptr {n b o:Nat}:σ n=Y b->VR σ (ξ (Y ⟨n,o,ω⟩)) (ξ (Y ⟨b,o,ω⟩))
 | sl0:VR σ (ψ ω 0 0) (ψ ω 0 0)
 | sl {n b o len K c:Nat}:σ n=Y b->CR K c->(K % 2=1->o=0->c<=σ.e b)->VR σ (ψ (Y ⟨n,o,ω⟩) len K) (ψ (Y ⟨b,o,ω⟩) len c)
 | far {a:Addr}{c:Nat}:VR σ eS (.slice (Y a) 0 c)
 | map0:VR σ (.map ω) (.map ω)
 | map {n b:Nat}:σ n=Y b->VR σ (.map (Y n)) (.map (Y b))
 | chan0:VR σ (.chan ω) (.chan ω)
 | any (v:Value):Hj v=true->VR σ rz v
 | func (fn:Fn){f f' c c':Array Value}:f.size=f'.size->(∀(i:Nat) v v',f[i]? = Y v->f'[i]? = Y v'->VR σ v v')->
   c.size=c'.size->(∀(i:Nat) v v',c[i]? = Y v->c'[i]? = Y v'->VR σ v v')->VR σ (.func fn f c) (.func fn f' c')
 | nilFunc:VR σ .nilFunc .nilFunc
 | iface (t:TypeId){v v':Value}:VR σ v v'->VR σ (.iface t v) (.iface t v')
 | nilIface:VR σ .nilIface .nilIface
 | agg {c c':Array Value}:c.size=c'.size->(∀(i:Nat) v v',c[i]? = Y v->c'[i]? = Y v'->VR σ v v')->VR σ (.agg c) (.agg c')
 | tuple {c c':Array Value}:c.size=c'.size->(∀(i:Nat) v v',c[i]? = Y v->c'[i]? = Y v'->VR σ v v')->VR σ (.tuple c) (.tuple c')
def aH.le (σ σ':aH):Prop:=∀n b,σ n=Y b->σ' n=Y b/\σ'.e b=σ.e b
theorem VR.mono {σ σ':aH}(h:aH.le σ σ'){v v':Value}(hv:VR σ v v'):VR σ' v v':=by
 induction hv with
 | bool b=>exact .bool b
 | int k n=>exact .int k n
 | float k n=>exact .float k n
 | complex k a b=>exact .complex k a b
 | string s=>exact .string s
 | ptr0=>exact .ptr0
 | ptr e=>exact .ptr (h _ _ e).1
 | sl0=>exact .sl0
 | sl e k q=>exact .sl (h _ _ e).1 k (by rw[(h _ _ e).2];exact q)
 | far=>exact .far
 | map0=>exact .map0
 | map e=>exact .map (h _ _ e).1
 | chan0=>exact .chan0
 | any v hv=>exact .any v hv
 | func fn a _ b _ ih1 ih2=>exact .func fn a ih1 b ih2
 | nilFunc=>exact .nilFunc
 | iface t _ ih=>exact .iface t ih
 | nilIface=>exact .nilIface
 | agg a _ ih=>exact .agg a ih
 | tuple a _ ih=>exact .tuple a ih
def br (σ:aH) (l l':List Value):Prop:=l.length=l'.length/\∀(i:Nat) v v',l[i]? = Y v->l'[i]? = Y v'->VR σ v v'
theorem br.nil (σ:aH):br σ [] []:=⟨rfl,λi v v' h=>by simp at h⟩
theorem br.cons {σ:aH}{v v':Value}{l l':List Value}(h:VR σ v v') (hl:br σ l l'):br σ (v :: l) (v' :: l'):=by
 refine⟨by simp[hl.1],λi u u' hu hu'=>?_⟩;cases i with
 | zero=>simp at hu hu';subst hu;subst hu';exact h
 | succ i=>simp at hu hu';exact hl.2 i u u' hu hu'
theorem br.mono {σ σ':aH}(h:aH.le σ σ'){l l':List Value}(hl:br σ l l'):br σ' l l':=⟨hl.1,λi v v' a b=>(hl.2 i v v' a b).mono h⟩
theorem br.append {σ:aH}{l l' m m':List Value}(hl:br σ l l') (hm:br σ m m'):br σ (l ++ m) (l' ++ m'):=by
 refine⟨by simp[hl.1,hm.1],λi u u' hu hu'=>?_⟩;rcases Nat.lt_or_ge i l.length with hlt | hge
 .rw[List.getElem?_append_left hlt]at hu;rw[List.getElem?_append_left (by rw[<-hl.1];exact hlt)]at hu';exact hl.2 i u u' hu hu'
 .rw[List.getElem?_append_right hge]at hu;rw[List.getElem?_append_right (by rw[<-hl.1];exact hge),<-hl.1]at hu';exact hm.2 _ u u' hu hu'
theorem br.drop {σ:aH}{l l':List Value}(hl:br σ l l') (n:Nat):br σ (l.drop n) (l'.drop n):=
 ⟨by simp[hl.1],λi u u' hu hu'=>hl.2 (n+i) u u' (by rw[List.getElem?_drop]at hu;exact hu) (by rw[List.getElem?_drop]at hu';exact hu')⟩
theorem br.take {σ:aH}{l l':List Value}(hl:br σ l l') (n:Nat):br σ (l.take n) (l'.take n):=by
 refine⟨by simp[hl.1],λi u u' hu hu'=>?_⟩;rw[List.getElem?_take]at hu hu';by_cases h:i<n
 .simp[h]at hu hu';exact hl.2 i u u' hu hu'
 .simp[h]at hu
theorem br.get {σ:aH}{l l':List Value}(hl:br σ l l'){i:Nat}{v:Value}(h:l[i]? = Y v):∃v',l'[i]? = Y v'/\VR σ v v':=by
 have hi:i<l'.length:=by rw[<-hl.1];exact(List.getElem?_eq_some_iff.1 h).1
 exact⟨l'[i],List.getElem?_eq_getElem hi,hl.2 i v _ h (List.getElem?_eq_getElem hi)⟩
theorem br.of_map {σ:aH}{α:Type}(l:List α) (f g:α->Value) (h:∀x∈l,VR σ (f x) (g x)):br σ (l.map f) (l.map g):=by
 induction l with
 | nil=>exact br.nil σ
 | cons x l ih=>exact br.cons (h x (by simp)) (ih λy hy=>h y (by simp[hy]))
theorem VR.agg' {σ:aH}{l l':List Value}(h:br σ l l'):VR σ (.agg l.toArray) (.agg l'.toArray):=
 .agg (by simp[h.1]) (λi v v' a b=>h.2 i v v' (by simpa using a) (by simpa using b))
theorem VR.tuple' {σ:aH}{l l':List Value}(h:br σ l l'):VR σ (.tuple l.toArray) (.tuple l'.toArray):=
 .tuple (by simp[h.1]) (λi v v' a b=>h.2 i v v' (by simpa using a) (by simpa using b))
theorem VR.cells {σ:aH}{v v':Value}(h:VR σ v v') (hJ:GI v=true):br σ v.cells.toList v'.cells.toList:=by
 cases h with
 | agg a b=>exact⟨by simpa[Value.cells]using a,λi u u' hu hu'=>b i u u' (by simpa[Value.cells]using hu) (by simpa[Value.cells]using hu')⟩
 | any v hv=>exact absurd hJ (by simp[GI,rz])
 | _=>exact br.cons (by constructor <;>assumption) (br.nil σ)
theorem aY {α:Type}{p:α->Bool}:∀{l:List α},aV p l=true->∀x∈l,p x=true
 | [],_,x,hx=>by cases hx
 | y :: l,h,x,hx=>by
  have h':cond (p y) (aV p l) false=true:=h;cases hp:p y with
  | false=>rw[hp]at h';cases h'
  | true=>
   rw[hp]at h';cases hx with
   | head=>exact hp
   | tail _ hm=>exact aY h' x hm
theorem ow {u:Value}(h:aV flat u.cells.toList=true):GI u=true:=by
 unfold GI
 split
 .rename_i c;have:=aY h (.chan (Y c)) (by simp[Value.cells]);simp[flat]at this
 .rfl
theorem em {a b:Bool}(h:cond a b false=true):a=true/\b=true:=by cases a <;>cases b <;>simp_all
theorem Da {σ:aH}:∀(n:Nat){v v':Value},plain n v=true->VR σ v v'->v' = v:=by
 intro n
 induction n with
 | zero=>intro v v' h;cases h
 | succ n ih=>
  intro v v' h hv;have h':de (plain n) v=true:=h;have rows:∀{c c':Array Value},aV (plain n) c.toList=true->c.size=c'.size->(∀(i:Nat) v v',c[i]? = Y v->c'[i]? = Y v'->VR σ v v')->c' = c:=by
   intro c c' hp hs hx;apply Array.ext hs.symm;intro i h1 h2;have a:c[i]? = Y c[i]:=Array.getElem?_eq_getElem h2;have b:c'[i]? = Y c'[i]:=Array.getElem?_eq_getElem h1;exact ih (aY hp _ (Array.mem_toList_iff.2 (Array.getElem_mem h2))) (hx i _ _ a b)
  cases hv with
  | ptr e=>simp[de]at h'
  | sl e k q=>simp[de]at h'
  | far=>simp[de,eS]at h'
  | map e=>simp[de]at h'
  | any v hv=>simp[de,rz]at h'
  | func fn a b c d=>
   simp only[de]at h';obtain⟨h1,h2⟩:=em h';rw[rows h1 a b,rows h2 c d]
  | iface t hw=>simp only[de]at h';rw[ih h' hw]
  | agg a b=>simp only[de]at h';rw[rows h' a b]
  | tuple a b=>simp only[de]at h';rw[rows h' a b]
  | _=>rfl
theorem tZ:∀(n:Nat){v:Value},plain n v=true->GI v=true:=by
 intro n v h;unfold GI
 split
 .rename_i c;cases n with
  | zero=>cases h
  | succ n=>
   have h':de (plain n) (.chan (Y c))=true:=h;simp[de]at h'
 .rfl
theorem sk {v:Value}(h:pl v=true):GI v=true:=tZ 6 h
theorem ya {σ:aH}:∀(n:Nat){v:Value},plain n v=true->VR σ v v:=by
 intro n
 induction n with
 | zero=>intro v h;cases h
 | succ n ih=>
  intro v h;have h':de (plain n) v=true:=h;have rows:∀{c:Array Value},aV (plain n) c.toList=true->∀(i:Nat) v v',c[i]? = Y v->c[i]? = Y v'->VR σ v v':=by
   intro c hp i v v' h1 h2;rw[h1]at h2;cases h2;exact ih (aY hp _ (Array.mem_toList_iff.2 (Array.mem_of_getElem? h1)))
  unfold de at h'
  split at h'
  .exact .bool _
  .exact .int _ _
  .exact .float _ _
  .exact .complex _ _ _
  .exact .string _
  .exact .nilFunc
  .exact .nilIface
  .exact .ptr0
  .exact .sl0
  .exact .map0
  .exact .chan0
  .obtain⟨h1,h2⟩:=em h';exact .func _ rfl (rows h1) rfl (rows h2)
  .exact .iface _ (ih h')
  .exact .agg rfl (rows h')
  .exact .tuple rfl (rows h')
  .exact absurd h' (by simp)
theorem vJ {σ:aH}{v v':Value}(h:pl v=true) (hv:VR σ v v'):v' = v:=Da 6 h hv
theorem cY {σ:aH}{v:Value}(h:pl v=true):VR σ v v:=ya 6 h
inductive OR (P:Program) (σ:aH) (b:Nat):AO->Obj->Prop
 | cells {c:List Value}{c':Array Value}{e:TypeId}{fr:Bool}{f':Nat×Nat} :
   (∀(i:Nat) v,c[i]? = Y v->∃v',c'[i]? = Y v'/\VR σ v v')->
   (fr=false->f'.1=f'.2\/c'.size<=f'.1)->(∀i,P.info? e=Y i->σ.e b*i.size<=c'.size)->OR P σ b (.cells c e fr) (.cells c' e f')
 | map {es:List (Value×Value×Nat)}{es':Array MapEntry}{clock:Nat}:es.length=es'.size->
   (∀(i:Nat) k v b,es[i]? = Y (k,v,b)->∃e',es'[i]? = Y e'/\VR σ k e'.key/\VR σ v e'.val/\e'.born=b)->OR P σ b (.map es clock) (.map es' clock)
 | iter (s:ByteArray) (pos:Nat):OR P σ b (.iter s pos) (.stringIter s pos)
theorem OR.mono {P:Program}{σ σ':aH}{b:Nat}(h:aH.le σ σ') (hb:σ'.e b=σ.e b){o:AO}{o':Obj}(ho:OR P σ b o o'):OR P σ' b o o':=by
 cases ho with
 | cells x y z=>exact .cells (λi v hv=>let ⟨v',p,q⟩:=x i v hv;⟨v',p,q.mono h⟩) y (by rw[hb];exact z)
 | map x y=>exact .map x (λi k v b' hv=>let ⟨e',p,q,r,t⟩:=y i k v b' hv;⟨e',p,q.mono h,r.mono h,t⟩)
 | iter s p=>exact .iter s p
def AX (σ:aH) (h:AH) (w:World):Prop:=w.cell? ⟨0,0,ω⟩=Y (.iface 284 (.agg #[ξ (Y ⟨7,53,ω⟩)]))/\∀n o,σ n=Y 0->h.get n=Y o->∃c e,o = .cells c e true
theorem AX.lt {σ:aH}{h:AH}{w:World}(i:AX σ h w):0<w.heap.size:=by
 have h:=i.1;unfold World.cell? at h;rcases Nat.lt_or_ge 0 w.heap.size with h1 | h1
 .exact h1
 .have e:w.heap[0]? = .none:=Array.getElem?_eq_none h1;simp only[e]at h;cases h
theorem AX.step {σ σ':aH}{h h':AH}{w w':World}(i:AX σ h w) (hG:∀b,b<w.heap.size->(∀n o,σ n=Y b->h.get n=Y o->∃c e,o = .cells c e true)->w'.heap[b]? = w.heap[b]?) (hσ:∀n b o,σ' n=Y b->h'.get n=Y o->(∃m,σ m=Y b/\h.get m=Y o)\/w.heap.size<=b\/∃m o,σ m=Y b/\h.get m=Y o/\∀c e,o≠.cells c e true):AX σ' h' w':=by
 refine⟨?_,λn o hn ho=>?_⟩
 .have h:=i.1;unfold World.cell? at h⊢;simp only[hG _ i.lt i.2];exact h
 .rcases hσ n _ o hn ho with⟨m,x,y⟩ | x | ⟨m,o',x,y,z⟩
  .exact i.2 m o x y
  .exact absurd i.lt U
  .obtain⟨c,e,rfl⟩:=i.2 m o' x y;exact absurd rfl (z c e)
structure HR (P:Program) (σ:aH) (h:AH) (w:World):Prop where
 lt:∀n b,σ n=Y b->n<h.next/\b<w.heap.size
 obj:∀n b o,σ n=Y b->h.get n=Y o->∃o',w.heap[b]? = Y o'/\OR P σ b o o'
 inj:∀n m b o p,σ n=Y b->σ m=Y b->h.get n=Y o->h.get m=Y p->n=m
 none:∀n,h.next<=n->h.get n = .none
 inv:AX σ h w
structure St (P:Program) (σ:aH) (h:AH) (w:World) (σ':aH) (h':AH) (w':World):Prop where
 ext:aH.le σ σ'
 hr:HR P σ' h' w'
 os:w'.os=w.os
 tape:w'.tape=w.tape
 output:w'.output=w.output/\w.drawn<=w'.drawn
 size:w.heap.size<=w'.heap.size
 next:h.next<=h'.next
 new:∀n b,σ' n=Y b->σ n=ω->h.next<=n/\(w.heap.size<=b\/∃m,σ m=Y b)
 keep:∀n,n<h.next->σ n=ω->h'.get n=h.get n
 frame:∀b,b<w.heap.size->(∀n,σ n≠Y b)->w'.heap[b]? = w.heap[b]?
 ro:∀n b c e,σ n=Y b->h.get n=Y (.cells c e true)->h'.get n=Y (.cells c e true)/\w'.heap[b]? = w.heap[b]?
theorem aH.le_refl (σ:aH):aH.le σ σ:=λ_ _ e=>⟨e,rfl⟩
theorem aH.le_trans {σ σ' σ'':aH}(a:aH.le σ σ') (b:aH.le σ' σ''):aH.le σ σ'':=λn c e=>⟨(b n c (a n c e).1).1,(b n c (a n c e).1).2.trans (a n c e).2⟩
theorem St.refl {P:Program}{σ:aH}{h:AH}{w:World}(hr:HR P σ h w):St P σ h w σ h w:=
 ⟨aH.le_refl σ,hr,rfl,rfl,⟨rfl,Nat.le_refl _⟩,Nat.le_refl _,Nat.le_refl _,(λn b a c=>by rw[c]at a;cases a),λ_ _ _=>rfl,λ_ _ _=>rfl,λ_ _ _ _ _ a=>⟨a,rfl⟩⟩
theorem St.trans {P:Program}{σ σ' σ'':aH}{h h' h'':AH}{w w' w'':World}(a:St P σ h w σ' h' w') (b:St P σ' h' w' σ'' h'' w''):St P σ h w σ'' h'' w'' where
 ext:=aH.le_trans a.ext b.ext
 hr:=b.hr
 os:=b.os.trans a.os
 tape:=b.tape.trans a.tape
 output:=⟨b.output.1.trans a.output.1,Nat.le_trans a.output.2 b.output.2⟩
 size:=Nat.le_trans a.size b.size
 next:=Nat.le_trans a.next b.next
 new:=λn c e0 e1=>by
  cases e2:σ' n with
  | none=>
   obtain⟨x,y⟩:=b.new n c e0 e2;refine⟨Nat.le_trans a.next x,?_⟩;rcases y with y | ⟨m,hm⟩
   .exact .inl (Nat.le_trans a.size y)
   .cases e3:σ m with
    | none=>exact(a.new m c hm e3).2
    | some d=>have:=(a.ext m d e3).1;rw[hm]at this;cases this;exact .inr ⟨m,e3⟩
  | some d=>
   have:=(b.ext n d e2).1;rw[e0]at this;cases this;exact a.new n c e2 e1
 keep:=λn hn e=>by
  have e2:σ' n=none:=by
   cases e3:σ' n with
   | none=>rfl
   | some d=>exact absurd (a.new n d e3 e).1 U
  rw[b.keep n (Nat.lt_of_lt_of_le hn a.next) e2,a.keep n hn e]
 frame:=λc hc hf=>by
  have hf':∀n,σ' n≠Y c:=λn e=>by
   cases e3:σ n with
   | none=>
    rcases(a.new n c e e3).2 with x | ⟨m,hm⟩
    .omega
    .exact hf m hm
   | some d=>have:=(a.ext n d e3).1;rw[e]at this;cases this;exact hf n e3
  rw[b.frame c (Nat.lt_of_lt_of_le hc a.size) hf',a.frame c hc hf]
 ro:=λn c l e hn hg=>by
  obtain⟨x,y⟩:=a.ro n c l e hn hg;obtain⟨z,t⟩:=b.ro n c l e (a.ext n c hn).1 x;exact⟨z,t.trans y⟩
theorem HR.drawn {P:Program}{σ:aH}{h:AH}{w w':World}(hr:HR P σ h w) (e:w'.heap=w.heap):HR P σ h w':=
 ⟨λn b x=>by rw[e];exact hr.lt n b x,λn b o x y=>by rw[e];exact hr.obj n b o x y,hr.inj,hr.none,hr.inv.step (λb _ _=>by rw[e]) (λn b o x y=>.inl ⟨n,x,y⟩)⟩
end Eva
end
section
open Go Go.RowKit
namespace Eva
section
variable {P:Program}{σ:aH}{w:World}
theorem ap {t:TypeId}{d:TypeDesc}(h:P.underlying t=Y d):(underlying t).run P w = .ok d w:=run_underlying h w
theorem hZ {t:TypeId}{i:TypeInfo}(h:P.info? t=Y i):(typeInfo t).run P w = .ok i w:=by
 simp[typeInfo,program,Sem.run,h]
theorem a9 {t:TypeId}{i:TypeInfo}(h:P.info? t=Y i):(sizeOf t).run P w = .ok i.size w:=by
 simp[sizeOf,hZ h]
theorem ec {t:TypeId}{i:TypeInfo}{z:Value}(h:P.info? t=Y i) (hz:i.zero=Y z):(zeroValue t).run P w = .ok z w:=by
 simp[zeroValue,hZ h,hz]
theorem jx {t:TypeId}{d:TypeDesc}(h:P.underlying t=Y d):(isAgg t).run P w = .ok (iX d) w:=by
 cases d <;>simp[isAgg,ap h,iX]
theorem fP {α:Type}:∀(s:Sem α){a:α},av P s=Y a->s.run P w = .ok a w:=by
 intro s
 induction s with
 | pure a=>intro b h;have h':Y a=Y b:=h;cases h';rfl
 | program k ih=>intro b h;exact ih P h
 | mark m k ih=>intro b h;exact ih h
 | _=>intro b h;exact absurd h (by intro h';cases h')
theorem aZ (b o j:Nat):(⟨b,o,ω⟩:Addr).add j=⟨b,o+j,ω⟩:=by unfold Addr.add;split <;>simp_all
theorem aq {a b:Nat}(h:Nat.beq a b=true):a=b:=Nat.eq_of_beq_eq_true h
theorem af {α:Type}{c:Bool}{x:Option α}{y:α}(h:cond c x ω=Y y):c=true/\x=Y y:=by cases c <;>simp_all
theorem AY {l r:List Value}{o n:Nat}(h:pI l o n=Y r):r=(l.drop o).take n/\r.length=n:=by
 unfold pI at h;obtain⟨h1,h2⟩:=af h;cases h2;exact⟨rfl,aq h1⟩
def PR (σ:aH) (c c':List Value):Prop:=∀(i:Nat) v,c[i]? = Y v->∃v',c'[i]? = Y v'/\VR σ v v'
theorem PR.of_vrs {c c':List Value}(h:br σ c c'):PR σ c c':=λi v hv=>h.get hv
theorem PR.le {c c':List Value}(h:PR σ c c'):c.length<=c'.length:=by
 rcases Nat.lt_or_ge c'.length c.length with hlt | hge
 .obtain⟨v',h1,_⟩:=h c'.length c[c'.length] (List.getElem?_eq_getElem hlt);rw[List.getElem?_eq_none (Nat.le_refl _)]at h1;cases h1
 .exact hge
theorem PR.cut {c c' r:List Value}{o n:Nat}(h:PR σ c c') (hr:pI c o n=Y r):br σ r ((c'.drop o).take n)/\r.length=n/\o+n<=c'.length\/(n=0/\r = []):=by
 obtain⟨e1,e2⟩:=AY hr;rcases Nat.eq_zero_or_pos n with rfl | hn
 .exact .inr ⟨rfl,List.eq_nil_of_length_eq_zero e2⟩
 .refine .inl ?_;have hl:o+n<=c.length:=by
   rw[e1]at e2;simp at e2;omega
  have hle:=h.le;refine⟨⟨by rw[e2];simp;omega,λi v v' hv hv'=>?_⟩,e2,U⟩;have hi:i<n:=by rw[<-e2];exact(List.getElem?_eq_some_iff.1 hv).1
  rw[e1,List.getElem?_take]at hv;rw[List.getElem?_take]at hv';simp only[hi,if_true,List.getElem?_drop]at hv hv';obtain⟨u,hu,hr'⟩:=h _ _ hv;rw[hu]at hv';cases hv';exact hr'
theorem t7 {b:Nat}{c':Array Value}{e:TypeId}{f:Nat×Nat}(hb:w.heap[b]? = Y (.cells c' e f)) (o:Nat):w.cell? ⟨b,o,ω⟩=c'[o]?:=by
 unfold World.cell?;simp[hb]
theorem pv {b o n:Nat}{c':Array Value}{e:TypeId}{f:Nat×Nat}(hb:w.heap[b]? = Y (.cells c' e f)) (hn:o+n<=c'.size) :
  (loadCells ⟨b,o,ω⟩ n).run P w = .ok ((c'.toList.drop o).take n).toArray w:=by
 have hl:((c'.toList.drop o).take n).length=n:=by simp;omega
 have:=run_loadCells_list (P:=P) w ⟨b,o,ω⟩ ((c'.toList.drop o).take n) (λj v hv=>by
  rw[aZ,t7 hb];rw[List.getElem?_take]at hv
  split at hv
  .rw[List.getElem?_drop]at hv;simpa using hv
  .cases hv)
 rw[hl]at this;exact this
theorem pQ {b o:Nat}:(loadCells ⟨b,o,ω⟩ 0).run P w = .ok #[] w:=rfl
theorem vK {t:TypeId}{c:List Value}{o:Nat}{v:Value}{b:Nat}{c':Array Value}{e:TypeId}{f:Nat×Nat}
  (h:gY P t c o=Y v) (hr:PR σ c c'.toList) (hb:w.heap[b]? = Y (.cells c' e f)) :
  ∃v',(loadVar t ⟨b,o,ω⟩).run P w = .ok v' w/\VR σ v v':=by
 unfold gY at h
 split at h
 .rename_i d i hd hi;unfold vC at h;cases ha:iX d with
  | true=>
   rw[ha]at h;simp only[cond_true,Option.map_eq_some_iff]at h;obtain⟨r,hr1,rfl⟩:=h;rcases hr.cut hr1 with⟨hv,hl,hle⟩ | ⟨h0,rfl⟩
   .refine⟨_,?_,VR.agg' hv⟩;simp only[loadVar,Sem.run_bind,jx hd,ha,Result.andThen_ok,if_true,a9 hi,pv hb (by simpa using hle),Sem.run_pure]
   .refine⟨.agg #[],?_,VR.agg' (br.nil σ)⟩;simp only[loadVar,Sem.run_bind,jx hd,ha,Result.andThen_ok,if_true,a9 hi,h0,pQ,Sem.run_pure]
  | false=>
   rw[ha]at h;simp only[cond_false]at h;obtain⟨v',h1,h2⟩:=hr _ _ h;refine⟨v',?_,h2⟩;have hc:w.cell? ⟨b,o,ω⟩=Y v':=by rw[t7 hb];simpa using h1
   simp[loadVar,jx hd,ha,load,Sem.run,hc]
 .cases h
theorem oz {t:TypeId}{c:List Value}{o:Nat}{v:Value}{c':Array Value}
  (h:gY P t c o=Y v) (hr:PR σ c c'.toList):∃v',(part t c' o).run P w = .ok v' w/\VR σ v v':=by
 unfold gY at h
 split at h
 .rename_i d i hd hi;unfold vC at h;cases ha:iX d with
  | true=>
   rw[ha]at h;simp only[cond_true,Option.map_eq_some_iff]at h;obtain⟨r,hr1,rfl⟩:=h;have hx:c'.extract o (o+i.size)=((c'.toList.drop o).take i.size).toArray:=by
    apply Array.ext';simp[List.extract_eq_take_drop,List.drop_take]
   rcases hr.cut hr1 with⟨hv,hl,hle⟩ | ⟨h0,rfl⟩
   .refine⟨_,?_,VR.agg' hv⟩;simp only[part,Sem.run_bind,jx hd,ha,Result.andThen_ok,if_true,a9 hi,Sem.run_pure,hx]
   .refine⟨.agg #[],?_,VR.agg' (br.nil σ)⟩;rw[h0]at hx;simp only[part,Sem.run_bind,jx hd,ha,Result.andThen_ok,if_true,a9 hi,Sem.run_pure,h0,hx,List.take_zero]
  | false=>
   rw[ha]at h;simp only[cond_false]at h;obtain⟨v',h1,h2⟩:=hr _ _ h;refine⟨v',?_,h2⟩;have hc:c'[o]? = Y v':=by simpa using h1
   simp[part,jx hd,ha,hc]
 .cases h
def AZ (σ:aH) (fr:Fr) (ρ:Operand->Value) (o:Oper):Prop:=∀x∈o.op.operands,VR σ (ev fr x) (ρ x)
theorem dm {o:Oper}{fr:Fr}{ρ:Operand->Value}{v:Value}(hs:jY o=true) (hE:AZ σ fr ρ o) (h:Cy P o fr=Y v) :
  (execOp ρ o).run P w = .ok (.value v) w/\VR σ v v:=by
 unfold Cy at h;obtain⟨h1,h2⟩:=af h;have hx:=aY h1;have he:execOp ρ o=execOp (ev fr) o:=execOp_congr o (λcs b e=>by simp[jY,e]at hs) λx hm=>by
  exact vJ (hx x (Array.mem_toList_iff.2 hm)) (hE x hm)
 rw[he];unfold ll at h2
 split at h2
 .rename_i u hu;obtain⟨h3,h4⟩:=af h2;cases h4;exact⟨fP _ hu,cY h3⟩
 .cases h2
theorem i9 {h:AH}(hr:HR P σ h w){n b:Nat}(hn:σ n=Y b){c:List Value}{e:TypeId}{f:Bool}(hg:a8 h n=Y (c,e,f)) :
  ∃c' f',w.heap[b]? = Y (.cells c' e f')/\PR σ c c'.toList/\(f=false->f'.1=f'.2\/c'.size<=f'.1)/\h.get n=Y (.cells c e f)/\(∀i,P.info? e=Y i->σ.e b*i.size<=c'.size):=by
 unfold a8 at hg
 split at hg
 .rename_i c0 e0 f0 hg';cases hg;obtain⟨o',ho,hor⟩:=hr.obj n b _ hn hg';cases hor with
  | cells x y z=>exact⟨_,_,ho,(λi v hv=>by obtain⟨v',h1,h2⟩:=x i v hv;exact⟨v',by simpa using h1,h2⟩),y,hg',z⟩
 .cases hg
theorem oB {h:AH}(hr:HR P σ h w){t:TypeId}{x x' v:Value}(hx:VR σ x x') (hv:iK P t x h=Y v) :
  ∃v',(Instr.loadAt t x').run P w = .ok v' w/\VR σ v v':=by
 unfold iK at hv
 split at hv
 .rename_i a
  split at hv
  .rename_i c e f hs hc;cases hx with
   | ptr hn=>
    obtain⟨c',f',hb,hp,_,_,_⟩:=i9 hr hn hc;obtain⟨v',h1,h2⟩:=vK hv hp hb;exact⟨v',by simp[Instr.loadAt,Instr.sureAddr,h1],h2⟩
  .cases hv
 .cases hv
end
end Eva
end
section
open Go Go.RowKit
namespace Eva
section
variable {P:Program}{σ:aH}{w:World}
theorem ak {a b:Bool}(h:(a && b)=true):a=true/\b=true:=by simpa using h
theorem gc {a b:Nat}(h:Nat.ble a b=true):a<=b:=Nat.le_of_ble_eq_true h
theorem dH {a b:Nat}(h:Nat.blt a b=true):a<b:=Nat.le_of_ble_eq_true h
theorem cd {x x':Value}{n:Nat}(hx:VR σ x x') (h:bW x=Y n):∃k,x' = .int k n:=by
 unfold bW at h
 split at h
 .cases h;cases hx;exact⟨_,rfl⟩
 .cases h
theorem yb {o:Oper}{ρ:Operand->Value}{x:Operand}(ho:o.op = .nilCheck x){u v:Value}(hx:VR σ u (ρ x)) (hv:Fi u=Y v) :
  ∃v',(execOp ρ o).run P w = .ok (.value v') w/\VR σ v v':=by
 unfold Fi at hv
 split at hv
 .cases hv;generalize hr:ρ x=x' at hx;cases hx with
  | ptr hn=>exact⟨_,by simp only[execOp,ho,hr];rfl,.ptr hn⟩
 .cases hv;generalize hr:ρ x=x' at hx;cases hx with
  | func fn a b c d=>exact⟨_,by simp only[execOp,ho,hr];rfl,.func _ a b c d⟩
 .cases hv;generalize hr:ρ x=x' at hx;cases hx with
  | iface _ h=>exact⟨_,by simp only[execOp,ho,hr];rfl,.iface _ h⟩
 .cases hv
theorem t8 {t:TypeId}{x x' v:Value}(hx:VR σ x x') (hv:tM P t x=Y v) :
  ∃v',(Instr.makeInterface t x').run P w = .ok v' w/\VR σ v v':=by
 unfold tM at hv
 split at hv
 .cases hv
 .rename_i d hne hd;cases hv;refine⟨_,?_,.iface t hx⟩;cases d <;>simp_all[Instr.makeInterface,ap hd]
 .cases hv
def ON (x:Option Value) (n:Option Nat):Prop:=
 match x,n with
 | none,ω=>True
 | some v,Y n=>∃k,v = .int k (n:Int)
 | _,_=>False
theorem dp {fr:Fr}{ρ:Operand->Value}{x:Option Operand}{n:Option Nat}(hx:∀y,x=Y y->VR σ (ev fr y) (ρ y)) (h:iY fr x=Y n):ON (x.map ρ) n:=by
 unfold iY at h
 split at h
 .cases h;trivial
 .rename_i y;rw[Option.map_eq_some_iff]at h;obtain⟨m,hm,rfl⟩:=h;exact cd (hx y rfl) hm
theorem Ba {k:IntKind}{n y:Nat}{code:BoundsCode}(h:n<=y):(Instr.sliceBound (.int k (n:Int)) y code).run P w = .ok n w:=by
 simp[Instr.sliceBound,asIntOf,h]
theorem kq {isS:Bool}{len cap:Nat}{lo hi mx:Option Value}{l h m:Option Nat}(hl:ON lo l) (hh:ON hi h) (hm:ON mx m)
  (c1:m.isNone=true\/h.isSome=true) (c2:∀x,m=Y x->x<=cap) (c3:∀x,h=Y x->x<=m.getD cap) (c4:∀x,l=Y x->x<=h.getD len) :
  (Instr.sliceBounds isS len cap lo hi mx).run P w = .ok (l.getD 0,h.getD len,m.getD cap) w:=by
 have hb:∀{k:IntKind}{n y:Nat}{code:BoundsCode},n<=y->(Instr.sliceBound (.int k (n:Int)) y code).run P w = .ok n w:=λh=>Ba h;cases mx with
 | none=>
  cases m with
  | some m=>exact hm.elim
  | none=>
   cases hi with
   | none=>
    cases h with
    | some h=>exact hh.elim
    | none=>
     cases lo with
     | none=>
      cases l with
      | some l=>exact hl.elim
      | none=>simp[Instr.sliceBounds]
     | some lv=>
      cases l with
      | none=>exact hl.elim
      | some l=>obtain⟨k,rfl⟩:=hl;have:=c4 l rfl;simp at this;simp[Instr.sliceBounds,hb this]
   | some hv=>
    cases h with
    | none=>exact hh.elim
    | some h=>
     obtain⟨k,rfl⟩:=hh;have e3:=c3 h rfl;simp at e3;cases lo with
     | none=>
      cases l with
      | some l=>exact hl.elim
      | none=>simp[Instr.sliceBounds,hb e3]
     | some lv=>
      cases l with
      | none=>exact hl.elim
      | some l=>obtain⟨k,rfl⟩:=hl;have:=c4 l rfl;simp at this;simp[Instr.sliceBounds,hb this,hb e3]
 | some mv=>
  cases m with
  | none=>exact hm.elim
  | some m=>
   obtain⟨k,rfl⟩:=hm;have e2:=c2 m rfl;cases hi with
   | none=>
    cases h with
    | some h=>exact hh.elim
    | none=>simp at c1
   | some hv=>
    cases h with
    | none=>exact hh.elim
    | some h=>
     obtain⟨k,rfl⟩:=hh;have e3:=c3 h rfl;simp at e3;cases lo with
     | none=>
      cases l with
      | some l=>exact hl.elim
      | none=>simp[Instr.sliceBounds,hb e2,hb e3]
     | some lv=>
      cases l with
      | none=>exact hl.elim
      | some l=>obtain⟨k,rfl⟩:=hl;have:=c4 l rfl;simp at this;simp[Instr.sliceBounds,hb e2,hb e3,hb this]
theorem vL {n b o c low size:Nat}(hn:σ n=Y b){len K c':Nat}(hK:CR K c') (hx:K % 2=0){l:Nat}(hl:low=l) :
  VR σ (.slice (og (Y ⟨n,o,ω⟩) c low size) len K) (.slice (Y (if c=l then⟨b,o,ω⟩ else(⟨b,o,ω⟩:Addr).add (l*size))) len c'):=by
 subst hl;unfold og;by_cases h:c=low
 .subst h;simp only[Nat.beq_refl,cond_true,if_true];exact .sl hn hK (λh=>U)
 .have:Nat.beq c low=false:=by cases hb:Nat.beq c low with | false=>rfl | true=>exact absurd (aq hb) h
  simp only[this,cond_false,h,if_false,Option.map_some,aZ];exact .sl hn hK (λh=>U)
theorem sm {size n b o len K c' low:Nat}{high max:Option Nat}{v:Value}(hn:σ n=Y b) (hK:CR K c') (hE:K % 2=1->o=0->c'<=σ.e b)
  (hv:bS size (Y ⟨n,o,ω⟩) len K low high max=Y v) :
  (∀x,max=Y x->x<=c')/\(high.getD len<=max.getD c')/\low<=high.getD len/\
  VR σ v (.slice (Y (if max.getD c' = low then⟨b,o,ω⟩ else(⟨b,o,ω⟩:Addr).add (low*size))) (high.getD len - low) (max.getD c' - low)):=by
 have hle:=hK.le;unfold bS at hv;cases max with
 | some m=>
  simp only at hv;obtain⟨h1,h2⟩:=af hv;obtain⟨h3,h4⟩:=ak h1;obtain⟨h5,h6⟩:=ak h3;cases h2;have a1:=gc h5;have a2:=gc h6;have a3:=gc h4;refine⟨(λx hx=>by cases hx;omega),a2,a3,?_⟩;exact vL hn (CR.cx _) (by unfold cx;omega) rfl
 | none=>
  simp only at hv;obtain⟨h1,h2⟩:=af hv;obtain⟨h3,h4⟩:=ak h1;have a1:=gc h3;have a2:=gc h4;refine⟨(λx hx=>by cases hx),?_,a2,?_⟩
  .simp only[Option.getD_none];omega
  .cases he:Nat.beq (K % 2) 0 with
   | true=>
    rw[he]at h2;cases h2;have hc:c' = K / 2:=hK.1 (aq he);subst hc;exact vL hn (CR.cx _) (by unfold cx;omega) rfl
   | false=>
    rw[he]at h2;cases h2;simp only[cond_false,mP];cases hb:Nat.blt low (K / 2) with
    | true=>
     have:=dH hb;simp only[cond_true,Option.getD_none,Option.map_some,aZ,if_neg (show ¬c' = low by omega)];have hk:¬K % 2=0:=λe0=>by rw[e0]at he;cases he
     have hq:o+low*size=0->c' - low<=σ.e b:=λho=>by
      have:=hE U U;omega
     exact .sl hn (CR.cl U) (λ_ ho=>hq ho)
    | false=>
     have hge:¬low<K / 2:=λh=>by rw[show Nat.blt low (K / 2)=true from Nat.ble_eq_true_of_le h]at hb;cases hb
     simp only[cond_false,Option.getD_none];have h0:high.getD len - low=0:=U;rw[h0];exact .far
theorem ua {o:Oper}{fr:Fr}{ρ:Operand->Value}{t:TypeId}{x:Operand}{lo hi mx:Option Operand}(ho:o.op = .slice t x lo hi mx) (hE:AZ σ fr ρ o)
  {v:Value}(hv:xV P o fr (P.underlying t) (ev fr x) (iY fr lo) (iY fr hi) (iY fr mx)=Y v) :
  ∃v',(execOp ρ o).run P w = .ok (.value v') w/\VR σ v v':=by
 have hx:VR σ (ev fr x) (ρ x):=hE x (by simp[ho,Op.operands]);have hlo:∀y,lo=Y y->VR σ (ev fr y) (ρ y):=λy hy=>hE y (by simp[ho,Op.operands,hy]);have hhi:∀y,hi=Y y->VR σ (ev fr y) (ρ y):=λy hy=>hE y (by simp[ho,Op.operands,hy]);have hmx:∀y,mx=Y y->VR σ (ev fr y) (ρ y):=λy hy=>hE y (by simp[ho,Op.operands,hy]);have key:∀r:Value,(Instr.sliceAt t (ρ x) (lo.map ρ) (hi.map ρ) (mx.map ρ)).run P w = .ok r w->(execOp ρ o).run P w = .ok (.value r) w:=by
  intro r hr;simp[execOp,ho,hr]
 unfold xV at hv
 split at hv
 .obtain⟨h1,h2⟩:=dm (w:=w) (by simp[jY,ho]) hE hv;exact⟨v,h1,h2⟩
 .rename_i a len K hex
  split at hv
  .rename_i e l hh m hd hl' hh' hm';have ol:=dp hlo hl';have oh:=dp hhi hh';have om:=dp hmx hm';unfold am at hv
   split at hv
   .rename_i i hi'
    split at hv
    .obtain⟨h1,h2⟩:=af hv;cases h2;obtain⟨h1,c6⟩:=ak h1;obtain⟨h1,c5⟩:=ak h1;obtain⟨h1,c4⟩:=ak h1;obtain⟨h1,c3⟩:=ak h1;obtain⟨c1,c2⟩:=ak h1;have c1:=aq c1;have c2:=aq c2;have c3:=aq c3;have c4:=aq c4;have c5:=aq c5;subst c1;subst c2;rw[hex]at hx;generalize hρ:ρ x=x' at hx;cases hx with
     | sl0=>
      refine⟨ψ ω 0 0,key _ ?_,.sl0⟩;have hb:=kq (P:=P) (w:=w) (isS:=true) (len:=0) (cap:=0) ol oh om (by simpa using c6) (λx hx=>by rw[hx]at c5;simp at c5;omega)
       (λx hx=>by rw[hx]at c4;simp at c4;omega) (λx hx=>by rw[hx]at c3;simp at c3;omega)
      rw[hρ];simp only[Instr.sliceAt,Sem.run_bind,ap hd,Result.andThen_ok,Instr.slice,hb,a9 hi',Sem.run_pure];rw[c3,c4];cases m with
      | none=>simp
      | some m=>simp at c5;subst c5;simp
    .rename_i b
     split at hv
     .rename_i hsp;obtain⟨h1,h2⟩:=af hv;rw[hex]at hx;generalize hρ:ρ x=x' at hx;cases hx with
      | sl hn hK hq=>
       obtain⟨q1,q2,q3,q4⟩:=sm hn hK hq h2;refine⟨_,key _ ?_,q4⟩;have hb:=kq (P:=P) (w:=w) (isS:=true) ol oh om (by simpa using h1) q1 (λx hx=>by rw[hx]at q2;simpa using q2) (λx hx=>by rw[hx]at q3;simpa using q3);rw[hρ];simp only[Instr.sliceAt,Sem.run_bind,ap hd,Result.andThen_ok,Instr.slice,hb,a9 hi',Sem.run_pure]
       congr 2
       split <;>rfl
      | far=>simp at hsp
     .cases hv
   .cases hv
  .cases hv
 .rename_i b hex
  split at hv
  .rename_i n e l hh hd hl' hh' hm';have ol:=dp hlo hl';have oh:=dp hhi hh';have om:=dp hmx hm';unfold tN at hv
   split at hv
   .rename_i i hi' hsp;rw[hex]at hx;generalize hρ:ρ x=x' at hx;cases hx with
    | ptr hn=>
     obtain⟨q1,q2,q3,q4⟩:=sm hn (CR.cx n) (λh=>by unfold cx at h;omega) hv;refine⟨_,key _ ?_,q4⟩;have hb:=kq (P:=P) (w:=w) (isS:=false) ol oh om (.inl rfl) q1 (λx hx=>by rw[hx]at q2;simpa using q2) (λx hx=>by rw[hx]at q3;simpa using q3);rw[hρ];simp only[Instr.sliceAt,Sem.run_bind,ap hd,Result.andThen_ok,Instr.sureAddr,hb,a9 hi',Sem.run_pure]
   .cases hv
  .cases hv
 .cases hv
end
end Eva
end
section
open Go Go.RowKit
namespace Eva
section
variable {P:Program}{σ:aH}{w:World}
theorem mS {s:TypeId}{x x' v:Value}{f:Nat}(hx:VR σ x x') (hv:gZ P (P.underlying s) x f=Y v) :
  ∃v',(Instr.fieldAt s x' f).run P w = .ok v' w/\VR σ v v':=by
 unfold gZ at hv
 split at hv
 .rename_i fields a hd
  split at hv
  .rename_i fd hf hs
   split at hv
   .rename_i i hi;cases hz:Nat.beq i.size 0 with
    | true=>rw[hz]at hv;cases hv
    | false=>
     rw[hz]at hv;cases hv;have hne:¬i.size=0:=λe=>by rw[e]at hz;cases hz
     cases hx with
     | ptr hn=>
      refine⟨_,?_,by rw[aZ];exact .ptr hn⟩;simp only[Instr.fieldAt,Sem.run_bind,ap hd,Result.andThen_ok,hf,Instr.sureAddr,Sem.run_pure,fieldPlace,a9 hi,hne,if_false,aZ]
   .cases hv
  .cases hv
 .cases hv
theorem PR.of_agg {c c':Array Value}(hs:c.size=c'.size) (h:∀(i:Nat) v v',c[i]? = Y v->c'[i]? = Y v'->VR σ v v'):PR σ c.toList c'.toList:=by
 intro i v hv;have hi:i<c'.size:=by rw[<-hs];exact(Array.getElem?_eq_some_iff.1 (by simpa using hv)).1
 exact⟨c'[i],by simp[hi],h i v _ (by simpa using hv) (Array.getElem?_eq_getElem hi)⟩
theorem ub {t:TypeId}{x x' v:Value}{f:Nat}(hx:VR σ x x') (hv:tP P (P.underlying t) x f=Y v) :
  ∃v',(Instr.field t x' f).run P w = .ok v' w/\VR σ v v':=by
 unfold tP at hv
 split at hv
 .rename_i fields cs hd
  split at hv
  .rename_i fd hf;cases hx with
   | agg hs hx=>
    obtain⟨v',h1,h2⟩:=oz (w:=w) hv (PR.of_agg hs hx);exact⟨v',by simp[Instr.field,ap hd,hf,asAgg,h1],h2⟩
  .cases hv
 .cases hv
theorem mT {t:TypeId}{x x' y y' v:Value}(hx:VR σ x x') (hy:VR σ y y') (hv:dV P (P.underlying t) x (bW y)=Y v) :
  ∃v',(Instr.indexAt t x' y').run P w = .ok v' w/\VR σ v v':=by
 unfold dV at hv
 split at hv
 .rename_i e a len K i hd hi;obtain⟨k,rfl⟩:=cd hy hi;unfold idx at hv
  split at hv
  .rename_i inf hinf hs;obtain⟨h1,h2⟩:=af hv;cases h2;have hlt:=dH h1;cases hx with
   | sl hn hK hq=>
    refine⟨_,?_,by rw[aZ];exact .ptr hn⟩;have:(0:Int)<=i/\(i:Int)<(len:Int):=U;simp[Instr.indexAt,asIntOf,ap hd,a9 hinf,hlt,aZ]
   | far=>simp at hs
  .cases hv
 .rename_i n e a i hd hi;obtain⟨k,rfl⟩:=cd hy hi;unfold idx at hv
  split at hv
  .rename_i inf hinf hs;obtain⟨h1,h2⟩:=af hv;cases h2;have hlt:=dH h1;cases hx with
   | ptr hn=>
    refine⟨_,?_,by rw[aZ];exact .ptr hn⟩;simp[Instr.indexAt,asIntOf,ap hd,a9 hinf,hlt,aZ,Instr.sureAddr]
  .cases hv
 .cases hv
theorem Bb (s:ByteArray) (i:Nat):s[i]? = s.data.toList[i]?:=by
 by_cases h:i<s.size
 .rw[getElem?_pos s i h];have h2:i<s.data.toList.length:=by simpa using h
  rw[List.getElem?_eq_getElem h2];rfl
 .rw[getElem?_neg s i h,List.getElem?_eq_none (by simpa using h)]
theorem uc {t:TypeId}{x x' y y' v:Value}(hx:VR σ x x') (hy:VR σ y y') (hv:tQ P (P.underlying t) x (bW y)=Y v) :
  ∃v',(Instr.index t x' y').run P w = .ok v' w/\VR σ v v':=by
 unfold tQ at hv
 split at hv
 .rename_i n e cs i hd hi;obtain⟨k,rfl⟩:=cd hy hi
  split at hv
  .rename_i inf hinf;obtain⟨h1,h2⟩:=af hv;have hlt:=dH h1;cases hx with
   | agg hs hx=>
    obtain⟨v',h3,h4⟩:=oz (w:=w) h2 (PR.of_agg hs hx);exact⟨v',by simp[Instr.index,asIntOf,ap hd,a9 hinf,hlt,h3],h4⟩
  .cases hv
 .rename_i s i hd hi;obtain⟨k,rfl⟩:=cd hy hi
  split at hv
  .rename_i b hb;cases hv;cases hx;refine⟨_,?_,.int _ _⟩;have hb':s[i]? = Y b:=by rw[Bb];exact hb
   simp[Instr.index,asIntOf,ap hd,hb']
  .cases hv
 .cases hv
theorem pR {x x' v:Value}{i:Nat}(hx:VR σ x x') (hv:lq x i=Y v):∃v',(Instr.extract x' i).run P w = .ok v' w/\VR σ v v':=by
 unfold lq at hv
 split at hv
 .cases hx with
  | tuple hs hx=>
   obtain⟨v',h1,h2⟩:=PR.of_agg hs hx i v hv;have h1':_:=h1;rw[Array.getElem?_toList]at h1';exact⟨v',by simp[Instr.extract,h1'],h2⟩
 .cases hv
def ER (σ:aH) (es:List (Value×Value×Nat)) (es':List MapEntry):Prop:=
 es.length=es'.length/\∀(i:Nat) k v b,es[i]? = Y (k,v,b)->∃e',es'[i]? = Y e'/\VR σ k e'.key/\VR σ v e'.val/\e'.born=b
theorem ER.tail {x:Value×Value×Nat}{e:MapEntry}{es:List (Value×Value×Nat)}{es':List MapEntry}(h:ER σ (x :: es) (e :: es')):ER σ es es':=
 ⟨by simpa using h.1,λi k v b hi=>h.2 (i+1) k v b (by simpa using hi)⟩
theorem ER.head {k v:Value}{b:Nat}{e:MapEntry}{es:List (Value×Value×Nat)}{es':List MapEntry}(h:ER σ ((k,v,b) :: es) (e :: es')):VR σ k e.key/\VR σ v e.val:=by
 obtain⟨e',h1,h2,h3,_⟩:=h.2 0 k v b rfl;simp at h1;subst h1;exact⟨h2,h3⟩
theorem vM (kt:TypeId) (a b:Value):∃d0,Op.equal kt a b=Op.equalIn (d0+1) kt a b:=⟨9999,rfl⟩
theorem Db (e:Bool) (kt:TypeId) (k:Value):∃d0,Instr.checkKey e 10000 kt k=Instr.checkKey e (d0+1) kt k:=⟨9999,rfl⟩
theorem pS {kt:TypeId}{d:TypeDesc}(hd:P.underlying kt=Y d){a b:Value}{r:Bool}(h:Instr.sameNow d a b=Y r):(Op.equal kt a b).run P w = .ok r w:=by
 obtain⟨d0,e⟩:=vM kt a b;rw[e];unfold Instr.sameNow at h
 split at h
 .rename_i k x k' y
  split at h
  .rename_i hk;cases h;simp[Op.equalIn,ap hd,hk]
  .cases h
 .cases h;simp[Op.equalIn,ap hd]
 .cases h;simp[Op.equalIn,ap hd]
 .cases h
theorem pT {kt:TypeId}{d:TypeDesc}(hd:P.underlying kt=Y d){k:Value}:∀(es:List MapEntry) (i:Nat){r:Option (Nat×Value)},Instr.findNow d k es i=Y r->
  (Instr.findAsking kt k es i).run P w = .ok r w
 | [],i,r,h=>by simp[Instr.findNow]at h;subst h;simp[Instr.findAsking]
 | e :: es,i,r,h=>by
  simp only[Instr.findNow]at h
  split at h
  .rename_i hs;cases h;simp[Instr.findAsking,pS (w:=w) hd hs]
  .rename_i hs;simp[Instr.findAsking,pS (w:=w) hd hs,pT hd es (i+1) h]
  .cases h
theorem fQ {kt:TypeId}{d:TypeDesc}(hd:P.underlying kt=Y d){k:Value}{es:List MapEntry}{r:Option (Nat×Value)}(h:(Instr.findAsking kt k es 0).run P w = .ok r w) :
  (Instr.findKey kt k es).run P w = .ok r w:=by
 unfold Instr.findKey;simp only[Sem.run_bind,ap hd,Result.andThen_ok]
 split
 .rename_i r' hr;have:=pT (w:=w) hd es 0 hr;rw[h]at this;cases this;rfl
 .exact h
def FR (σ:aH) (r r':Option (Nat×Value)):Prop:=
 match r,r' with
 | none,ω=>True
 | some (i,v),Y (j,v')=>i=j/\VR σ v v'
 | _,_=>False
theorem eo {kt:TypeId}{k:Value}:∀(es:List (Value×Value×Nat)) (es':List MapEntry) (i:Nat){r:Option (Nat×Value)},ER σ es es'->gv P kt k es i=Y r->
  pl k=true/\∃r',(Instr.findAsking kt k es' i).run P w = .ok r' w/\FR σ r r'
 | [],es',i,r,hE,h=>by
  have h':cond (pl k) (Y ω) ω=Y r:=h;obtain⟨h1,h2⟩:=af h';cases h2;have:es' = []:=List.eq_nil_of_length_eq_zero (by simpa using hE.1.symm);subst this;exact⟨h1,ω,by simp[Instr.findAsking],trivial⟩
 | (key,v,b) :: es,es',i,r,hE,h=>by
  have h':cond (pl k && pl key) (pJ i v (gv P kt k es (i+1)) (av P (Op.equal kt k key))) ω=Y r:=h;obtain⟨h1,h2⟩:=af h';obtain⟨h3,h4⟩:=ak h1;cases es' with
  | nil=>have:=hE.1;simp at this
  | cons e es'=>
   obtain⟨hk,hvv⟩:=hE.head;have hke:e.key=key:=vJ h4 hk;unfold pJ at h2
   split at h2
   .rename_i hq;cases h2;refine⟨h3,Y (i,e.val),?_,rfl,hvv⟩;simp[Instr.findAsking,hke,fP (w:=w) _ hq]
   .rename_i hq;obtain⟨_,r',h5,h6⟩:=eo es es' (i+1) hE.tail h2;refine⟨h3,r',?_,h6⟩;simp[Instr.findAsking,hke,fP (w:=w) _ hq,h5]
   .cases h2
theorem oC {kt:TypeId}{e:Bool}{k:Value}(h:lw P kt e k=true):(Instr.checkKey e 10000 kt k).run P w = .ok () w:=by
 unfold lw at h
 split at h
 .rename_i u hu;exact fP _ hu
 .cases h
theorem yc {h:AH}(hr:HR P σ h w){n b:Nat}(hn:σ n=Y b){es:List (Value×Value×Nat)}{clock:Nat}(hg:h.get n=Y (.map es clock)) :
  ∃es',w.heap[b]? = Y (.map es' clock)/\ER σ es es'.toList:=by
 obtain⟨o',ho,hor⟩:=hr.obj n b _ hn hg;cases hor with
 | map x y=>exact⟨_,ho,by simpa using x,λi k v c hi=>by obtain⟨e',h1,h2⟩:=y i k v c hi;exact⟨e',by simpa using h1,h2⟩⟩
theorem fk {b:Nat}{es':Array MapEntry}{clock:Nat}(h:w.heap[b]? = Y (.map es' clock)):(getObj b).run P w = .ok (.map es' clock) w:=by
 simp[getObj,Sem.run,h]
theorem sn {kt:TypeId}{e:Bool}{k:Value}(h:(Instr.checkKey e 10000 kt k).run P w = .ok () w):∃d,P.underlying kt=Y d:=by
 cases hq:P.underlying kt with
 | some d=>exact⟨d,rfl⟩
 | none=>
  exfalso;obtain⟨d0,e1⟩:=Db e kt k;rw[e1]at h;simp[Instr.checkKey,underlying,program,Sem.run,hq,stuck]at h
theorem sq {kt e:TypeId}{i:TypeInfo}{k:Value}{ok:Bool}{es:List (Value×Value×Nat)}{es':Array MapEntry}{v:Value}(hE:ER σ es es'.toList) (hi:P.info? e=Y i)
  (hc:(Instr.checkKey es.isEmpty 10000 kt k).run P w = .ok () w) (h:tR ok i.zero (gv P kt k es 0)=Y v) :
  es'.isEmpty=es.isEmpty/\∃v' r',VR σ v v'/\(Instr.findKey kt k es'.toList).run P w = .ok r' w/\
   ((∃j u,r' = Y (j,u)/\v' = (if ok then .tuple #[u,.bool true] else u))\/(r' = ω/\∃z,i.zero=Y z/\v' = (if ok then .tuple #[z,.bool false] else z))):=by
 obtain⟨d,hdd⟩:=sn hc;refine⟨?_,?_⟩
 .have:=hE.1;cases es with
  | nil=>simp at this;simp[Array.isEmpty,<-this]
  | cons a l=>
   have h0:es'.size≠0:=by simp at this;omega
   simp[Array.isEmpty,h0]
 .unfold tR at h
  split at h
  .rename_i j u hf;cases h;obtain⟨_,r',h5,h6⟩:=eo (w:=w) es es'.toList 0 hE hf;cases r' with
   | none=>exact h6.elim
   | some p=>
    obtain⟨j',u'⟩:=p;obtain⟨rfl,hu⟩:=h6;refine⟨_,_,?_,fQ hdd h5,.inl ⟨_,_,rfl,rfl⟩⟩;cases ok
    .exact hu
    .exact VR.tuple' (br.cons hu (br.cons (.bool _) (br.nil σ)))
  .rename_i hf
   split at h
   .rename_i z hz;obtain⟨h7,h8⟩:=af h;cases h8;obtain⟨_,r',h5,h6⟩:=eo (w:=w) es es'.toList 0 hE hf;cases r' with
    | some p=>exact h6.elim
    | none=>
     refine⟨_,_,?_,fQ hdd h5,.inr ⟨rfl,z,hz,rfl⟩⟩;cases ok
     .exact cY h7
     .exact VR.tuple' (br.cons (cY h7) (br.cons (.bool _) (br.nil σ)))
   .cases h
  .cases h
theorem rA {h:AH}(hr:HR P σ h w){t:TypeId}{x x' k k' v:Value}{ok:Bool}(hx:VR σ x x') (hk:VR σ k k') (hv:bp P (P.underlying t) x k ok h=Y v) :
  ∃v',(Instr.lookup t x' k' ok).run P w = .ok v' w/\VR σ v v':=by
 unfold bp at hv
 split at hv
 .rename_i kt e r hd
  split at hv
  .rename_i es i hes hi;obtain⟨h1,h2⟩:=af hv;obtain⟨h3,h4⟩:=ak h1;have hke:=vJ h3 hk;subst hke;have hc:=oC (w:=w) h4;unfold lr at hes;cases hx with
   | map0=>
    simp at hes;subst hes;obtain⟨hemp,v',r',hV,hf,hcase⟩:=sq (es':=#[]) ⟨rfl,λi k v b h=>by simp at h⟩ hi hc h2;refine⟨v',?_,hV⟩;rcases hcase with⟨j,u,rfl,rfl⟩ | ⟨rfl,z,hz,rfl⟩
    .simp only[Instr.lookup,Sem.run_bind,ap hd,Result.andThen_ok,Sem.run_pure,hemp,hc,hf]
    .simp only[Instr.lookup,Sem.run_bind,ap hd,Result.andThen_ok,Sem.run_pure,hemp,hc,hf,ec hi hz]
   | map hn=>
    simp only at hes
    split at hes
    .rename_i es0 clock hg;cases hes;obtain⟨es',hb,hE⟩:=yc hr hn hg;obtain⟨hemp,v',r',hV,hf,hcase⟩:=sq hE hi hc h2;refine⟨v',?_,hV⟩;rcases hcase with⟨j,u,rfl,rfl⟩ | ⟨rfl,z,hz,rfl⟩
     .simp only[Instr.lookup,Sem.run_bind,ap hd,Result.andThen_ok,Sem.run_pure,fk hb,hemp,hc,hf]
     .simp only[Instr.lookup,Sem.run_bind,ap hd,Result.andThen_ok,Sem.run_pure,fk hb,hemp,hc,hf,ec hi hz]
    .cases hes
  .cases hv
 .cases hv
end
end Eva
end
section
open Go Go.RowKit
namespace Eva
section
variable {P:Program}{σ:aH}{w:World}
theorem vN {o:Oper}{op:BinOp}{t t2:TypeId}{x y:Operand}{ρ:Operand->Value}(ho:o.op = .binOp op t x y t2){k:IntKind}{a b:Int}(hx:ρ x = .int k a) (hy:ρ y = .int k b)
  {other:Option Value}{v:Value}(hv:sd op k a b other=Y v) (hoth:other=Y v->(execOp ρ o).run P w = .ok (.value v) w/\VR σ v v) :
  (execOp ρ o).run P w = .ok (.value v) w/\VR σ v v:=by
 unfold sd at hv
 split at hv
 all_goals first
  | exact hoth hv
  | (cases hv;refine⟨?_,by first | exact .int _ _ | exact .bool _⟩;simp[execOp,ho,hx,hy,eqGuard,binOp,Op.intArith,Op.intCmp];done)
  | (cases hv;refine⟨?_,by first | exact .int _ _ | exact .bool _⟩;simp[execOp,ho,hx,hy,eqGuard,binOp,Op.intArith,Op.intCmp])
theorem Bd {t:TypeId}{x y x' y':Value}(hx:VR σ x x') (hy:VR σ y y') (h:lx (P.underlying t) x y=true) :
  (Op.equal t x' y').run P w = .ok false w/\(∀op xo yo,(op=BinOp.eql\/op = .neq)->(eqGuard op t xo yo x' y').run P w = .ok () w/\
   (binOp .eql t x' y' = (do pure (.bool (<-Op.equal t x' y'))))/\(binOp .neq t x' y' = (do pure (.bool (!(<-Op.equal t x' y')))))):=by
 obtain⟨d0,e⟩:=vM t x' y';cases hd:P.underlying t with
 | none=>
  rw[hd]at h;exfalso;cases hx <;>cases hy <;>simp[lx,pK,xW,cV,tS,hU,eS,rz]at h
 | some d=>
  rw[hd]at h;cases hx <;>cases hy <;>simp[lx,eS,rz,pK,xW,cV,tS,hU]at h <;>
   (cases d <;>simp at h <;>refine⟨by rw[e];simp[Op.equalIn,ap hd],λop xo yo hop=>⟨by rcases hop with rfl | rfl <;>simp[eqGuard],by rfl,by rfl⟩⟩)
theorem yd {o:Oper}{fr:Fr}{ρ:Operand->Value}{op:BinOp}{t t2:TypeId}{x y:Operand}(ho:o.op = .binOp op t x y t2) (hE:AZ σ fr ρ o)
  {v:Value}(hv:Hk P op t o fr (ev fr x) (ev fr y)=Y v):∃v',(execOp ρ o).run P w = .ok (.value v') w/\VR σ v v':=by
 have hx:VR σ (ev fr x) (ρ x):=hE x (by simp[ho,Op.operands]);have hy:VR σ (ev fr y) (ρ y):=hE y (by simp[ho,Op.operands]);have hsel:jY o=true:=by simp[jY,ho]
 unfold Hk at hv
 split at hv
 .rename_i k a l b hxe hye;rw[hxe]at hx;rw[hye]at hy;cases hkl:(k == l) with
  | false=>
   rw[hkl]at hv;obtain⟨h1,h2⟩:=dm (w:=w) hsel hE hv;exact⟨v,h1,h2⟩
  | true=>
  rw[hkl]at hv;have h2:sd op k a b (Cy P o fr)=Y v:=hv;have hk:k=l:=by simpa using hkl
  subst hk;have ex:ρ x = .int k a:=by generalize ρ x=x' at hx;cases hx;rfl
  have ey:ρ y = .int k b:=by generalize ρ y=y' at hy;cases hy;rfl
  obtain⟨h3,h4⟩:=vN (σ:=σ) (w:=w) ho ex ey h2 (λh=>dm hsel hE h);exact⟨v,h3,h4⟩
 .unfold C2 at hv
  split at hv
  .rename_i hk;obtain⟨h1,h2⟩:=Bd (w:=w) hx hy hk
   split at hv
   .cases hv;obtain⟨g1,g2,_⟩:=h2 .eql x y (.inl rfl);exact⟨_,by simp only[execOp,ho,Sem.run_bind,g1,Result.andThen_ok,g2,h1,Sem.run_pure],.bool _⟩
   .cases hv;obtain⟨g1,_,g3⟩:=h2 .neq x y (.inr rfl);exact⟨_,by simp only[execOp,ho,Sem.run_bind,g1,Result.andThen_ok,g3,h1,Sem.run_pure,Bool.not_false],.bool _⟩
   .cases hv
  .obtain⟨h1,h2⟩:=dm (w:=w) hsel hE hv;exact⟨v,h1,h2⟩
theorem ye {h:AH}(hr:HR P σ h w){o:Oper}{fr:Fr}{t ty:TypeId}{ts:Array TypeId}{x x' v:Value}(ht:ts[0]? = Y t) (hx:VR σ x x') (hv:AS P o fr h (P.underlying t) x=Y v) :
  ∃v',(Builtin.len_ ts ty #[x']).run P w = .ok v' w/\VR σ v v':=by
 unfold AS at hv
 split at hv
 .rename_i a n K;obtain⟨h1,h2⟩:=af hv;cases h2;cases hd:P.underlying t with
  | none=>rw[hd]at h1;cases h1
  | some d=>
   rw[hd]at h1;cases d <;>simp[cV]at h1;cases hx <;>exact⟨_,by simp[Builtin.len_,ht,ap hd];rfl,.int _ _⟩
 .rename_i r;obtain⟨h1,h2⟩:=af hv;cases hd:P.underlying t with
  | none=>rw[hd]at h1;cases h1
  | some d=>
   rw[hd]at h1;cases d <;>simp[hU]at h1;unfold kj at h2
   split at h2
   .rename_i es clock hg;cases h2;cases hx with
    | map hn=>
     obtain⟨es',hb,hE⟩:=yc hr hn hg;refine⟨_,?_,.int _ _⟩;have:es'.size=es.length:=by simpa using hE.1.symm
     simp[Builtin.len_,ht,ap hd,fk hb,goInt,this]
   .cases h2
 .split at hv
  .rename_i s d hd;cases hv;cases hx;exact⟨_,by simp[Builtin.len_,ht,ap hd];rfl,.int _ _⟩
  .cases hv
 .cases hv
theorem yf {t ty:TypeId}{ts:Array TypeId}{x x' v:Value}(ht:ts[0]? = Y t) (hx:VR σ x x') (hv:xX (P.underlying t) x=Y v) :
  ∃v',(Builtin.cap_ ts ty #[x']).run P w = .ok v' w/\VR σ v v':=by
 unfold xX at hv
 split at hv
 .rename_i a n K;obtain⟨h1,h2⟩:=af hv;obtain⟨h3,h4⟩:=ak h1;cases h2;cases hd:P.underlying t with
  | none=>rw[hd]at h3;cases h3
  | some d=>
   rw[hd]at h3;cases d <;>simp[cV]at h3;cases hx with
   | sl0=>exact⟨_,by simp[Builtin.cap_,ht,ap hd];rfl,.int _ _⟩
   | sl hn hK hq=>
    have:=hK.1 (aq h4);subst this;exact⟨_,by simp[Builtin.cap_,ht,ap hd];rfl,.int _ _⟩
   | far=>cases h4
 .cases hv
theorem pw:∀{c:List Value}{o:Nat}{vs r:List Value},iQ c o vs=Y r->r=c.take o ++ vs ++ c.drop (o+vs.length)
 | c,o,[],r,h=>by simp[iQ]at h;subst h;simp
 | [],o,v :: vs,r,h=>by cases o <;>simp[iQ]at h
 | x :: c,0,v :: vs,r,h=>by
  simp only[iQ,Option.map_eq_some_iff]at h;obtain⟨r',h1,rfl⟩:=h;rw[pw h1];simp[Nat.add_comm]
 | x :: c,o+1,v :: vs,r,h=>by
  simp only[iQ,Option.map_eq_some_iff]at h;obtain⟨r',h1,rfl⟩:=h;rw[pw h1,show o+1+(v :: vs).length=(o+(v :: vs).length)+1 by omega];simp
theorem Be:∀(c:List Value) (o:Nat) (vs r:List Value),iQ c o vs=Y r->vs≠[]->o+vs.length<=c.length:=by
 intro c
 induction c with
 | nil=>intro o vs r h hn;cases vs with | nil=>exact absurd rfl hn | cons a b=>cases o <;>simp[iQ]at h
 | cons y c ih=>
  intro o vs r h hn;cases vs with
  | nil=>exact absurd rfl hn
  | cons a b=>
   cases o with
   | zero=>
    simp only[iQ,Option.map_eq_some_iff]at h;obtain⟨q,h1,_⟩:=h;cases b with
    | nil=>simp
    | cons d e=>have:=ih 0 (d :: e) q h1 (by simp);simp at this⊢;omega
   | succ o=>
    simp only[iQ,Option.map_eq_some_iff]at h;obtain⟨q,h1,_⟩:=h;have:=ih o (a :: b) q h1 (by simp);simp at this⊢;omega
theorem ia (off:Nat):∀(l:List Value) (k:Nat) (A:Array Value),off+k+l.length<=A.size->
  ((l.zipIdx k).foldl (λ(cs:Array Value) (p:Value×Nat)=>cs.setIfInBounds (off+p.2) p.1) A).toList=A.toList.take (off+k) ++ l ++ A.toList.drop (off+k+l.length)
 | [],k,A,_=>by simp
 | x :: l,k,A,h=>by
  simp only[List.zipIdx_cons,List.foldl_cons];rw[ia off l (k+1) _ (by simp at h⊢;omega)];simp only[Array.toList_setIfInBounds,List.length_cons];have hlt:off+k<A.toList.length:=by simp at h⊢;omega
  rw[List.set_eq_take_append_cons_drop,if_pos hlt];have e1:(A.toList.take (off+k)).length=off+k:=by rw[List.length_take];omega
  rw[show off+(k+1)=off+k+1 by omega];rw[List.take_append,List.drop_append,e1];rw[List.take_of_length_le (by omega:(A.toList.take (off+k)).length<=off+k+1),List.drop_eq_nil_of_le (by omega:(A.toList.take (off+k)).length<=off+k+1+l.length)];rw[show off+k+1 - (off+k)=0+1 by omega,show off+k+1+l.length - (off+k)=l.length+1 by omega];simp[List.drop_drop];rw[show off+k+(l.length+1)=off+k+1+l.length by omega]
def PS (σ:aH) (ps ps':List (Nat×Value)):Prop:=ps.length=ps'.length/\∀(i:Nat) p p',ps[i]? = Y p->ps'[i]? = Y p'->p.1=p'.1/\VR σ p.2 p'.2
theorem fR {place place':Nat->Option (Nat×Nat)}(hp:∀k x,place k=Y x->place' k=Y x):∀(ps ps':List (Nat×Value)) (cells:List Value) (cells':Array Value){v:Value},
  PS σ ps ps'->br σ cells cells'.toList->vD place ps cells=Y v->∃c c',v = .agg c/\Instr.fill place' cells' ps' = Y c'/\br σ c.toList c'.toList
 | [],ps',cells,cells',v,hP,hc,h=>by
  have:ps' = []:=List.eq_nil_of_length_eq_zero (by simpa using hP.1.symm);subst this;have h':Y (Value.agg cells.toArray)=Y v:=h;cases h';exact⟨_,cells',rfl,rfl,by simpa using hc⟩
 | p :: ps,ps',cells,cells',v,hP,hc,h=>by
  cases ps' with
  | nil=>have:=hP.1;simp at this
  | cons p' ps'=>
   obtain⟨hi,hv⟩:=hP.2 0 p p' rfl rfl;have hP':PS σ ps ps':=⟨by have:=hP.1;simpa using this,λi a b x y=>hP.2 (i+1) a b (by simpa using x) (by simpa using y)⟩;have h':C3 place (vD place ps) cells p=Y v:=h;unfold C3 at h'
   split at h'
   .rename_i off size hpl;obtain⟨h1,h2⟩:=af h';obtain⟨hJ,h1⟩:=ak h1;obtain⟨h3,h4⟩:=ak h1;have h3:=aq h3;have h4:=gc h4
    split at h2
    .rename_i c hset;have hcv:=hv.cells hJ;have hsz:p'.2.cells.size=size:=by have:=hcv.1;simp at this;rw[<-this,<-h3];simp
     have hcs:cells'.size=cells.length:=by have:=hc.1;simp at this;exact this.symm
     obtain⟨i',v'⟩:=p';obtain⟨i0,v0⟩:=p;simp only at hi hv hpl h3 hset hcv hsz;subst hi;have e:=pw hset;have hfold:(v'.cells.zipIdx.foldl (λcs (x:Value×Nat)=>cs.setIfInBounds (off+x.2) x.1) cells').toList=cells'.toList.take off ++ v'.cells.toList ++ cells'.toList.drop (off+v'.cells.toList.length):=by
      have:=ia off v'.cells.toList 0 cells' (by simp[hsz];omega);rw[Nat.add_zero]at this;rw[<-this,<-Array.foldl_toList,Array.toList_zipIdx]
     obtain⟨c1,c',r1,r2,r3⟩:=fR hp ps ps' c (v'.cells.zipIdx.foldl (λcs (x:Value×Nat)=>cs.setIfInBounds (off+x.2) x.1) cells') hP' (by
      rw[hfold,e,<-hcv.1];exact((hc.take off).append hcv).append (hc.drop _)) h2
     refine⟨c1,c',r1,?_,r3⟩;unfold Instr.fill;rw[hp _ _ hpl];simp only;rw[if_neg (by simp[hsz];omega)];exact r2
    .cases h2
   .cases h'
theorem oD {fr:Fr}{ρ:Operand->Value}{ps:Array (Nat×Operand)}(h:∀x∈ps.toList.map (·.2),VR σ (ev fr x) (ρ x)):PS σ (parts fr ps) ((ps.map λ(i,x)=>(i,ρ x)).toList):=by
 unfold parts;refine⟨by simp,λi p p' hp hp'=>?_⟩;rw[List.getElem?_map,Option.map_eq_some_iff]at hp;obtain⟨q,hq,rfl⟩:=hp;rw[Array.toList_map,List.getElem?_map,hq]at hp';simp only[Option.map_some,Option.some.injEq]at hp';subst hp';exact⟨rfl,h q.2 (List.mem_map.2 ⟨q,List.mem_of_getElem? hq,rfl⟩)⟩
theorem Bg {fields:List Field}(h:aV (λf=>(P.info? f.type).isSome) fields=true) :
  ∃places,fields.mapM (λf=>(P.info? f.type).map λi=>(f.offset,i.size))=Y places/\∀(k:Nat),places[k]? = (fields[k]?).bind λf=>(P.info? f.type).map λi=>(f.offset,i.size):=by
 induction fields with
 | nil=>exact⟨[],rfl,λk=>by simp⟩
 | cons f fields ih=>
  have hf:=aY h f (by simp);obtain⟨i,hi⟩:=Option.isSome_iff_exists.1 hf;have ht:aV (λf=>(P.info? f.type).isSome) fields=true:=by
   have h':cond (P.info? f.type).isSome (aV (λf=>(P.info? f.type).isSome) fields) false=true:=h;exact(em h').2
  obtain⟨places,h1,h2⟩:=ih ht;refine⟨(f.offset,i.size) :: places,by simp[List.mapM_cons,hi,h1],λk=>?_⟩;cases k with
  | zero=>simp[hi]
  | succ k=>simpa using h2 k
theorem ud {t:TypeId}{ps:List (Nat×Value)}{ps':Array (Nat×Value)}(hP:PS σ ps ps'.toList){v:Value}(hv:tU P (P.underlying t) (P.info? t) ps=Y v) :
  ∃v',(Instr.build t ps').run P w = .ok v' w/\VR σ v v':=by
 unfold tU at hv
 split at hv
 .rename_i fields i hd hi
  split at hv
  .rename_i z hz;obtain⟨h1,h2⟩:=af hv;obtain⟨h3,h4⟩:=ak h1;obtain⟨places,hm,hpl⟩:=Bg (P:=P) h3;obtain⟨c,c',rfl,hf,hc⟩:=fR (place':=(places.toArray[·]?)) (λk x hx=>by
    unfold fieldAt at hx;simp only[List.getElem?_toArray];rw[hpl k]
    split at hx
    .rename_i f hf
     split at hx
     .rename_i j hj;cases hx;have:fields.toList[k]? = Y f:=by simpa using hf
      simp[this,hj]
     .cases hx
    .cases hx) ps ps'.toList z.cells.toList z.cells hP (by
      have:=(cY (σ:=σ) h4).cells (sk h4);exact this) h2
   refine⟨.agg c',?_,?_⟩
   .refine run_build w t ps' c' ?_;unfold Program.built;rw[hi,hd];simp only[hz,hm];exact hf
   .have:=VR.agg' hc;simpa using this
  .cases hv
 .rename_i n e i hd hi
  split at hv
  .rename_i z j hz hj;obtain⟨h1,h2⟩:=af hv;obtain⟨c,c',rfl,hf,hc⟩:=fR (place':=λk=>Y (k*j.size,j.size)) (λk x hx=>hx) ps ps'.toList z.cells.toList z.cells hP ((cY (σ:=σ) h1).cells (sk h1)) h2;refine⟨.agg c',?_,?_⟩
   .refine run_build w t ps' c' ?_;unfold Program.built;rw[hi,hd];simp only[hz,hj];exact hf
   .have:=VR.agg' hc;simpa using this
  .cases hv
 .cases hv
end
end Eva
end
section
open Go Go.RowKit
namespace Eva
section
variable {P:Program}{σ:aH}{w:World}
theorem pU:∀(l l':List Value){bs:List UInt8},br σ l l'->fN l=Y bs->∃ns:List Int,l' = ns.map (Value.int .u8)/\
  ∀s:ByteArray,ns.foldl (λr n=>r.push (UInt8.ofNat n.toNat)) s=⟨(s.data.toList ++ bs).toArray⟩
 | [],l',bs,hl,h=>by
  have:l' = []:=List.eq_nil_of_length_eq_zero (by simpa using hl.1.symm);subst this;simp[fN]at h;subst h;exact⟨[],rfl,λs=>by cases s;simp⟩
 | x :: l,l',bs,hl,h=>by
  cases l' with
  | nil=>have:=hl.1;simp at this
  | cons x' l'=>
   have hx:=hl.2 0 x x' rfl rfl;have hl':br σ l l':=⟨by have:=hl.1;simpa using this,λi a b p q=>hl.2 (i+1) a b (by simpa using p) (by simpa using q)⟩;unfold fN at h
   split at h
   .rename_i e;cases e
   .rename_i n r e;cases e;rw[Option.map_eq_some_iff]at h;obtain⟨bs',h1,rfl⟩:=h;obtain⟨ns,rfl,h2⟩:=pU l l' hl' h1;cases hx;refine⟨Int.ofNat n :: ns,rfl,λs=>?_⟩;rw[List.foldl_cons,h2]
    congr 1
    apply Array.ext';cases s with
    | mk d=>simp[ByteArray.push]
   .cases h
theorem pV {h:AH}(hr:HR P σ h w){n b o m:Nat}(hn:σ n=Y b){l:List Value}(hl:jW h ⟨n,o,ω⟩ m=Y l) :
  (∃c' e' f',w.heap[b]? = Y (.cells c' e' f')/\o+m<=c'.size/\br σ l ((c'.toList.drop o).take m))\/(m=0/\l = []):=by
 unfold jW at hl
 split at hl
 .rename_i c e f hs hc;obtain⟨c',f',hb,hp,_,_,_⟩:=i9 hr hn hc;rcases hp.cut hl with⟨h1,h2,h3⟩ | ⟨h1,h2⟩
  .exact .inl ⟨c',_,f',hb,by simpa using h3,h1⟩
  .exact .inr ⟨h1,h2⟩
 .cases hl
theorem Bh {h:AH}(hr:HR P σ h w){n b o m:Nat}(hn:σ n=Y b){l:List Value}(hl:jW h ⟨n,o,ω⟩ m=Y l) :
  ∃l',(loadCells ⟨b,o,ω⟩ m).run P w = .ok l'.toArray w/\br σ l l':=by
 rcases pV hr hn hl with⟨c',e',f',hb,hle,hv⟩ | ⟨rfl,rfl⟩
 .exact⟨_,pv hb hle,hv⟩
 .exact⟨[],rfl,br.nil σ⟩
theorem vO {h:AH}(hr:HR P σ h w){o:Oper}{fr:Fr}{ρ:Operand->Value}{s d:TypeId}{x:Operand}(ho:o.op = .convert s d x) (hE:AZ σ fr ρ o)
  {v:Value}(hv:pM P o fr h s d (ev fr x)=Y v):∃v',(execOp ρ o).run P w = .ok (.value v') w/\VR σ v v':=by
 have hx:VR σ (ev fr x) (ρ x):=hE x (by simp[ho,Op.operands]);have key:∀r:Value,(convert s d (ρ x)).run P w = .ok r w->(execOp ρ o).run P w = .ok (.value r) w:=by
  intro r hr;simp[execOp,ho,hr]
 unfold pM at hv
 split at hv
 .rename_i a len K hex
  split at hv
  .rename_i e hs hd
   split at hv
   .rename_i he
    split at hv
    .rename_i l hl
     split at hv
     .rename_i bs hbs;cases hv;rw[hex]at hx;generalize hρ:ρ x=x' at hx;have conv:∀(a:Option Addr) (l c:Nat),(convert s d (.slice a l c)).run P w=(Conv.bytesToString (.slice a l c)).run P w:=λa l c=>run_convert_bytes_string w s d e a l c hs he hd
      cases hx with
      | sl0=>
       simp[hY]at hl;subst hl;simp[fN]at hbs;subst hbs;refine⟨.string ⟨#[]⟩,key _ ?_,.string _⟩;rw[hρ,conv];rfl
      | @sl n b o' _ _ c hn hK hq=>
       have hrun:∃l',(loadCells ⟨b,o',ω⟩ len).run P w = .ok l'.toArray w/\br σ l l':=by
        unfold hY at hl;simp only at hl;cases h0:Nat.beq len 0 with
        | true=>
         rw[h0]at hl;cases hl;have:=aq h0;subst this;exact⟨[],rfl,br.nil σ⟩
        | false=>rw[h0]at hl;exact Bh hr hn hl
       obtain⟨l',h1,h2⟩:=hrun;obtain⟨ns,rfl,h3⟩:=pU l l' h2 hbs;refine⟨_,key _ ?_,.string _⟩;rw[hρ,conv,run_bytesToString w _ _ _ ns h1,h3];simp[ByteArray.empty,ByteArray.emptyWithCapacity]
       try rfl
      | @far a' c=>
       simp[hY,Nat.beq_refl]at hl;subst hl;simp[fN]at hbs;subst hbs;refine⟨.string ⟨#[]⟩,key _ ?_,.string _⟩;rw[hρ,conv];rfl
     .cases hv
    .cases hv
   .cases hv
  .cases hv
 .obtain⟨h1,h2⟩:=dm (w:=w) (by simp[jY,ho]) hE hv;exact⟨v,h1,h2⟩
theorem rB {t xt:TypeId}{x x' v:Value}{ok:Bool}(hx:VR σ x x') (hv:pq P t x ok=Y v) :
  ∃v',(Instr.typeAssert x' xt t ok).run P w = .ok v' w/\VR σ v v':=by
 unfold pq at hv
 split at hv
 .cases hv
 .rename_i d u y hni hd;obtain⟨h1,h2⟩:=af hv;have:=aq h1;subst this;cases h2;cases hx with
  | iface _ hy=>
   cases ok
   .refine⟨_,?_,hy⟩;cases d <;>first | (exfalso;exact hni _ hd rfl) | (simp[Instr.typeAssert,ap hd];done) | (exfalso;simp_all;done) | simp_all[Instr.typeAssert,ap hd]
   .refine⟨_,?_,VR.tuple' (br.cons hy (br.cons (.bool _) (br.nil σ)))⟩;cases d <;>first | (exfalso;exact hni _ hd rfl) | (simp[Instr.typeAssert,ap hd];done) | (exfalso;simp_all;done) | simp_all[Instr.typeAssert,ap hd]
 .cases hv
theorem vP {h:AH}(hr:HR P σ h w){o:Oper}{fr:Fr}{ρ:Operand->Value}{c:Call}(ho:o.op = .call c) (hE:AZ σ fr ρ o)
  {v:Value}(hv:pL P o fr h c=Y v):∃v',(execOp ρ o).run P w = .ok (.value v') w/\VR σ v v':=by
 have arg:∀{u:Value},xY c fr=Y u->∃u',c.args.map ρ = #[u']/\VR σ u u':=by
  intro u hu;unfold xY at hu
  split at hu
  .rename_i y hy;cases hu;have:c.args = #[y]:=Array.ext' hy;refine⟨ρ y,by rw[this];simp,hE y ?_⟩;simp[ho,Op.operands,Call.operands,this]
  .cases hu
 have typ:∀{d:TypeDesc},fF P c=Y d->∃t,c.argTypes[0]? = Y t/\fF P c=P.underlying t:=by
  intro d hd;unfold fF at hd⊢
  split at hd
  .rename_i t ts ht;have h0:c.argTypes[0]? = Y t:=by rw[<-Array.getElem?_toList,ht];rfl
   exact⟨t,h0,rfl⟩
  .cases hd
 unfold pL at hv
 split at hv
 .rename_i hb
  split at hv
  .rename_i u hu;obtain⟨u',h1,h2⟩:=arg hu;cases hq:fF P c with
   | none=>
    exfalso;rw[hq]at hv;unfold AS at hv
    split at hv <;>simp[cV,hU]at hv
   | some d=>
    obtain⟨t,ht,e⟩:=typ hq;rw[e]at hv;obtain⟨v',h3,h4⟩:=ye (ty:=o.type) hr ht h2 hv;refine⟨v',?_,h4⟩;simp only[execOp,ho,resolve,hb,h1,Sem.run_bind,Sem.run_pure,Result.andThen_ok,invoke,builtin,h3]
  .cases hv
 .rename_i hb
  split at hv
  .rename_i u hu;obtain⟨u',h1,h2⟩:=arg hu;cases hq:fF P c with
   | none=>
    exfalso;rw[hq]at hv;unfold xX at hv
    split at hv <;>simp[cV,hU]at hv
   | some d=>
    obtain⟨t,ht,e⟩:=typ hq;rw[e]at hv;obtain⟨v',h3,h4⟩:=yf (ty:=o.type) (w:=w) ht h2 hv;refine⟨v',?_,h4⟩;simp only[execOp,ho,resolve,hb,h1,Sem.run_bind,Sem.run_pure,Result.andThen_ok,invoke,builtin,h3]
  .cases hv
 .obtain⟨h1,h2⟩:=dm (w:=w) (by simp[jY,ho]) hE hv;exact⟨v,h1,h2⟩
theorem su {h:AH}(hr:HR P σ h w){o:Oper}{fr:Fr}{ρ:Operand->Value}(hE:AZ σ fr ρ o){v:Value}(hv:rp P o fr h=Y v) :
  ∃v',(execOp ρ o).run P w = .ok (.value v') w/\VR σ v v':=by
 have out:∀{s:Sem Value},(∃v',s.run P w = .ok v' w/\VR σ v v')->∃v',(do pure (Next.value (<-s)):Sem Next).run P w = .ok (.value v') w/\VR σ v v':=by
  rintro s ⟨v',h1,h2⟩;exact⟨v',by simp[h1],h2⟩
 unfold rp at hv
 split at hv
 .rename_i x ho;cases hv;exact⟨ρ x,by simp[execOp,ho],hE x (by simp[ho,Op.operands])⟩
 .rename_i c a b ho;have h1:VR σ (ev fr c) (ρ c):=hE c (by simp[ho,Op.operands]);have h2:VR σ (ev fr a) (ρ a):=hE a (by simp[ho,Op.operands]);have h3:VR σ (ev fr b) (ρ b):=hE b (by simp[ho,Op.operands]);unfold C1 at hv
  split at hv
  .rename_i t ht;cases hv;rw[ht]at h1;generalize hc:ρ c=c' at h1;cases h1;refine⟨cond t (ρ a) (ρ b),?_,by cases t <;>assumption⟩;cases t <;>simp[execOp,ho,hc,asBool]
  .cases hv
 .rename_i t x ho;obtain⟨v',h1,h2⟩:=oB (P:=P) hr (hE x (by simp[ho,Op.operands])) hv;exact⟨v',by simp[execOp,ho,h1],h2⟩
 .rename_i x ho;exact yb ho (hE x (by simp[ho,Op.operands])) hv
 .rename_i t x ho;obtain⟨v',h1,h2⟩:=t8 (w:=w) (hE x (by simp[ho,Op.operands])) hv;exact⟨v',by simp[execOp,ho,h1],h2⟩
 .rename_i fn a b ho;cases hv;refine⟨.func fn (a.map ρ) (b.map ρ),by simp[execOp,ho,Instr.makeFunc],.func fn (by simp) ?_ (by simp) ?_⟩
  .intro i u u' hu hu';rw[Array.getElem?_map,Option.map_eq_some_iff]at hu;obtain⟨y,hy,rfl⟩:=hu;rw[Array.getElem?_map,hy]at hu';cases hu';exact hE y (by simp only[ho,Op.operands];exact Array.mem_append.2 (.inl (Array.mem_of_getElem? hy)))
  .intro i u u' hu hu';rw[Array.getElem?_map,Option.map_eq_some_iff]at hu;obtain⟨y,hy,rfl⟩:=hu;rw[Array.getElem?_map,hy]at hu';cases hu';exact hE y (by simp only[ho,Op.operands];exact Array.mem_append.2 (.inr (Array.mem_of_getElem? hy)))
 .rename_i t x lo hi mx ho;exact ua ho hE hv
 .rename_i s x f ho;obtain⟨v',h1,h2⟩:=mS (w:=w) (hE x (by simp[ho,Op.operands])) hv;exact⟨v',by simp[execOp,ho,h1],h2⟩
 .rename_i s x f ho;obtain⟨v',h1,h2⟩:=ub (w:=w) (hE x (by simp[ho,Op.operands])) hv;exact⟨v',by simp[execOp,ho,h1],h2⟩
 .rename_i s x i ho;obtain⟨v',h1,h2⟩:=mT (w:=w) (hE x (by simp[ho,Op.operands])) (hE i (by simp[ho,Op.operands])) hv;exact⟨v',by simp[execOp,ho,h1],h2⟩
 .rename_i s x i ho;obtain⟨v',h1,h2⟩:=uc (w:=w) (hE x (by simp[ho,Op.operands])) (hE i (by simp[ho,Op.operands])) hv;exact⟨v',by simp[execOp,ho,h1],h2⟩
 .rename_i x i ho;obtain⟨v',h1,h2⟩:=pR (P:=P) (w:=w) (hE x (by simp[ho,Op.operands])) hv;exact⟨v',by simp[execOp,ho,h1],h2⟩
 .rename_i t x ix ok ho;obtain⟨v',h1,h2⟩:=rA hr (hE x (by simp[ho,Op.operands])) (hE ix (by simp[ho,Op.operands])) hv;exact⟨v',by simp[execOp,ho,h1],h2⟩
 .rename_i op t x y t2 ho;exact yd ho hE hv
 .rename_i c ho;exact vP hr ho hE hv
 .rename_i t ps ho;have hP:PS σ (parts fr ps) ((ps.map λ(i,x)=>(i,ρ x)).toList):=oD λx hx=>hE x (by
   simp only[ho,Op.operands];simpa using hx)
  obtain⟨v',h1,h2⟩:=ud (w:=w) hP hv;exact⟨v',by simp only[execOp,ho,Sem.run_bind,h1,Result.andThen_ok,Sem.run_pure],h2⟩
 .rename_i s d x ho;exact vO hr ho hE hv
 .rename_i x xt t ok ho;obtain⟨v',h1,h2⟩:=rB (xt:=xt) (w:=w) (hE x (by simp[ho,Op.operands])) hv;exact⟨v',by simp[execOp,ho,h1],h2⟩
 .rename_i op t x ho;obtain⟨h1,h2⟩:=dm (w:=w) (by simp[jY,ho]) hE hv;exact⟨v,h1,h2⟩
 .cases hv
end
end Eva
end
section
open Go Go.RowKit
namespace Eva
section
variable {P:Program}{σ:aH}{w:World}
def Bi (w:World) (ob:Obj) (w':World):Prop:=w'.heap=w.heap.push ob/\w'.os=w.os/\w'.tape=w.tape/\w'.output=w.output/\w.drawn<=w'.drawn
def aH.put (σ:aH) (n b E:Nat):aH:=⟨λm=>if m=n then Y b else σ m,λx=>if x=b then E else σ.e x⟩
theorem aH.put_same (σ:aH) (n b E:Nat):(σ.put n b E) n=Y b:=by simp[aH.put]
theorem aH.put_ne (σ:aH){n m:Nat}(b E:Nat) (h:m≠n):(σ.put n b E) m=σ m:=by simp[aH.put,h]
theorem aH.put_e (σ:aH) (n b E:Nat):(σ.put n b E).e b=E:=by simp[aH.put]
theorem aH.put_e_ne (σ:aH) (n E:Nat){b c:Nat}(h:c≠b):(σ.put n b E).e c=σ.e c:=by simp[aH.put,h]
theorem AH.get_put (h:AH) (n:Nat) (o:AO):(h.put n o).get n=Y o:=Tr.get_set _ _ _
theorem AH.get_put_ne (h:AH){n m:Nat}(o:AO) (e:n≠m):(h.put n o).get m=h.get m:=Tr.get_set_ne _ _ e
theorem AH.get_del (h:AH) (n:Nat):(h.del n).get n=none:=Tr.get_set _ _ _
theorem AH.get_del_ne (h:AH){n m:Nat}(e:n≠m):(h.del n).get m=h.get m:=Tr.get_set_ne _ _ e
theorem AH.get_new (h:AH) (o:AO):(h.new o).get h.next=Y o:=Tr.get_set _ _ _
theorem AH.get_new_ne (h:AH){m:Nat}(o:AO) (e:h.next≠m):(h.new o).get m=h.get m:=Tr.get_set_ne _ _ e
theorem St.laid {h:AH}(hr:HR P σ h w){ob:AO}{ob':Obj}{w':World}{E:Nat}(hl:Bi w ob' w')
  (ho:∀σ':aH,aH.le σ σ'->σ'.e w.heap.size=E->OR P σ' w.heap.size ob ob') :
  St P σ h w (σ.put h.next w.heap.size E) (h.new ob) w':=by
 obtain⟨e1,e2,e3,e4⟩:=hl;have hn:σ h.next=none:=by
  cases hq:σ h.next with
  | none=>rfl
  | some b=>exact absurd (hr.lt _ _ hq).1 (Nat.lt_irrefl _)
 have hle:aH.le σ (σ.put h.next w.heap.size E):=λn b hb=>by
  have:n≠h.next:=λe=>by rw[e,hn]at hb;cases hb
  have hlt:=(hr.lt n b hb).2;exact⟨by rw[aH.put_ne σ _ _ this];exact hb,aH.put_e_ne σ _ _ U⟩
 have cases_:∀n b,(σ.put h.next w.heap.size E) n=Y b->(n=h.next/\b=w.heap.size)\/(n≠h.next/\σ n=Y b):=λn b hb=>by
  by_cases e:n=h.next
  .subst e;rw[aH.put_same]at hb;cases hb;exact .inl ⟨rfl,rfl⟩
  .rw[aH.put_ne σ _ _ e]at hb;exact .inr ⟨e,hb⟩
 have old:∀b,b<w.heap.size->w'.heap[b]? = w.heap[b]?:=λb hb=>by rw[e1,Array.getElem?_push];simp[Nat.ne_of_lt hb]
 refine⟨hle,⟨λn b hb=>?_,λn b o hb hg=>?_,λn m b o p h1 h2 g1 g2=>?_,λn hn2=>?_,hr.inv.step (λb hb _=>old b hb) (λn b o hb hg=>by
  rcases cases_ n b hb with⟨rfl,rfl⟩ | ⟨hne,hb⟩
  .exact .inr (.inl (Nat.le_refl _))
  .rw[AH.get_new_ne h _ (Ne.symm hne)]at hg;exact .inl ⟨n,hb,hg⟩)⟩,e2,e3,e4,by rw[e1];simp,by simp[AH.new],λn b hb h0=>?_,λn hn2 h0=>?_,λb hb _=>old b hb,λn b c e hb hg=>?_⟩
 .rcases cases_ n b hb with⟨rfl,rfl⟩ | ⟨_,hb⟩
  .exact⟨by simp[AH.new],by rw[e1];simp⟩
  .have:=hr.lt n b hb;exact⟨by simp[AH.new];omega,by rw[e1];simp;omega⟩
 .rcases cases_ n b hb with⟨rfl,rfl⟩ | ⟨hne,hb⟩
  .rw[AH.get_new]at hg;cases hg;exact⟨ob',by rw[e1];simp,ho _ hle (aH.put_e _ _ _ _)⟩
  .rw[AH.get_new_ne h _ (Ne.symm hne)]at hg;obtain⟨o',x,y⟩:=hr.obj n b o hb hg;exact⟨o',by rw[old b (hr.lt n b hb).2];exact x,y.mono hle (hle n b hb).2⟩
 .rcases cases_ n b h1 with⟨rfl,rfl⟩ | ⟨n1,b1⟩
  .rcases cases_ m _ h2 with⟨rfl,_⟩ | ⟨n2,b2⟩
   .rfl
   .exact absurd (hr.lt m _ b2).2 (Nat.lt_irrefl _)
  .rcases cases_ m b h2 with⟨rfl,rfl⟩ | ⟨n2,b2⟩
   .exact absurd (hr.lt n _ b1).2 (Nat.lt_irrefl _)
   .rw[AH.get_new_ne h _ (Ne.symm n1)]at g1;rw[AH.get_new_ne h _ (Ne.symm n2)]at g2;exact hr.inj n m b o p b1 b2 g1 g2
 .rw[AH.get_new_ne h _ (by simp[AH.new]at hn2;omega)];exact hr.none n (by simp[AH.new]at hn2;omega)
 .rcases cases_ n b hb with⟨rfl,rfl⟩ | ⟨_,hb⟩
  .exact⟨Nat.le_refl _,.inl (Nat.le_refl _)⟩
  .rw[h0]at hb;cases hb
 .exact AH.get_new_ne h _ U
 .have hlt:=hr.lt n b hb;exact⟨by rw[AH.get_new_ne h _ U];exact hg,old b hlt.2⟩
theorem dW (w:World) (ob:Obj):Bi w ob { w with heap:=w.heap.push ob }:=⟨rfl,rfl,rfl,rfl,Nat.le_refl _⟩
theorem PR.flat_self {l:List Value}(h:aV (λv=>pl v && flat v) l=true):br σ l l:=
 ⟨rfl,λi v v' a b=>by
  rw[a]at b;cases b;exact cY (ak (aY h v (List.mem_of_getElem? a))).1⟩
theorem OR.of_vrs {l:List Value}{a:Array Value}{e:TypeId}{b:Nat}(h:br σ l a.toList):∀σ':aH,aH.le σ σ'->σ'.e b=0->OR P σ' b (.cells l e false) (.cells a e):=
 λσ' hle he=>.cells (λi v hv=>by obtain⟨v',h1,h2⟩:=(h.mono hle).get hv;exact⟨v',by simpa using h1,h2⟩) (λ_=>.inl rfl) (λi _=>by rw[he];omega)
def ja (P:Program) (σ:aH) (w:World) (s:Sem Next) (ob:AO) (f:Nat->Value):Prop:=
 ∃v' ob' w' E,s.run P w = .ok (.value v') w'/\Bi w ob' w'/\(∀σ':aH,aH.le σ σ'->σ'.e w.heap.size=E->OR P σ' w.heap.size ob ob')/\
  ∀(σ':aH) n,σ' n=Y w.heap.size->σ'.e w.heap.size=E->VR σ' (f n) v'
theorem ep {z:Value}{n:Nat}(h:ff z n=true):z.cells.toList.length=n/\br σ z.cells.toList z.cells.toList/\∀v∈z.cells.toList,flat v=true:=by
 unfold ff at h;obtain⟨h1,h2⟩:=ak h;exact⟨aq h1,PR.flat_self h2,λv hv=>(ak (aY h2 v hv)).2⟩
theorem Dc (l:List Value):dD 0 l = []:=rfl
theorem vQ (n:Nat) (l:List Value):dD (n+1) l=l ++ dD n l:=rfl
theorem lz (n:Nat) (l:List Value):(dD n l).length=n*l.length:=by
 induction n with
 | zero=>simp[Dc]
 | succ n ih=>rw[vQ,List.length_append,ih,Nat.add_mul];omega
theorem lC (l:List Value) (n i:Nat) (h:i<n*l.length):(dD n l)[i]? = l[i % l.length]?:=by
 induction n generalizing i with
 | zero=>simp at h
 | succ n ih=>
  rw[vQ];rcases Nat.lt_or_ge i l.length with hlt | hge
  .rw[List.getElem?_append_left hlt,Nat.mod_eq_of_lt hlt]
  .rw[List.getElem?_append_right hge,ih (i - l.length) (by rw[Nat.add_mul]at h;omega)];rw[Nat.mod_eq_sub_mod hge]
theorem jy (n:Nat) (a:Array Value):((Array.range (n*a.size)).map (λi=>a[i % a.size]!)).toList=dD n a.toList:=by
 apply List.ext_getElem?;intro i;by_cases h:i<n*a.size
 .have hp:0<a.size:=by
   rcases Nat.eq_zero_or_pos a.size with e | e
   .rw[e]at h;simp at h
   .exact e
  have hm:i % a.size<a.size:=Nat.mod_lt _ hp;rw[lC _ _ _ (by simpa using h)];simp only[Array.toList_map,List.getElem?_map,Array.getElem?_toList];rw[Array.getElem?_eq_getElem (by simpa using h)];simp[hm]
 .rw[List.getElem?_eq_none (by simp;omega),List.getElem?_eq_none (by rw[lz];simp;omega)]
theorem eV (ob:Obj):(newObj ob).run P w = .ok w.heap.size { w with heap:=w.heap.push ob }:=rfl
theorem pW {σ':aH}{n b:Nat}(h:σ' n=Y b):VR σ' (zv n) (ξ (Y ⟨b,0,ω⟩)):=.ptr h
theorem lD {σ':aH}{n b l K c:Nat}(h:σ' n=Y b) (hK:CR K c) (hq:K % 2=1->c<=σ'.e b):VR σ' (oV l K n) (ψ (Y ⟨b,0,ω⟩) l c):=.sl h hK (λx _=>hq x)
theorem zC (c:Nat):cx c % 2=1->False:=λh=>by unfold cx at h;omega
theorem ue {o:Oper}{ρ:Operand->Value}{t:TypeId}(ho:o.op = .alloc t){ob:AO}{f:Nat->Value}(h:tV t (P.info? t)=Y (ob,f)):ja P σ w (execOp ρ o) ob f:=by
 unfold tV at h
 split at h
 .rename_i i hi
  split at h
  .rename_i z hz;obtain⟨h1,h2⟩:=af h;cases h2;obtain⟨_,hv,_⟩:=ep (σ:=σ) h1;refine⟨ξ (Y ⟨w.heap.size,0,ω⟩),.cells z.cells t,_,0,?_,dW w _,OR.of_vrs hv,λσ' n hn _=>pW hn⟩;simp[execOp,ho,Instr.alloc,ec hi hz,newVar,newRow,eV]
  .cases h
 .cases h
theorem yg {o:Oper}{ρ:Operand->Value}{t:TypeId}{x:Operand}(ho:o.op = .box t x){u:Value}(hx:VR σ u (ρ x)){ob:AO}{f:Nat->Value}(h:Fj t u=Y (ob,f)) :
  ja P σ w (execOp ρ o) ob f:=by
 unfold Fj at h;obtain⟨h1,h2⟩:=af h;cases h2;refine⟨ξ (Y ⟨w.heap.size,0,ω⟩),.cells (ρ x).cells t,_,0,?_,dW w _,OR.of_vrs (hx.cells (ow h1)),λσ' n hn _=>pW hn⟩;simp[execOp,ho,Instr.box,newVar,newRow,eV]
theorem lE {o:Oper}{ρ:Operand->Value}{t:TypeId}{len:Nat}{ps:List (Nat×Value)}{ops:Array (Nat×Operand)}(ho:o.op = .buildSlice t len ops)
  (hP:PS σ ps ((ops.map λ(i,x)=>(i,ρ x)).toList)){ob:AO}{f:Nat->Value}(h:fO P (P.underlying t) len ps=Y (ob,f)):ja P σ w (execOp ρ o) ob f:=by
 unfold fO at h
 split at h
 .rename_i e hd
  split at h
  .rename_i i hi
   split at h
   .rename_i z hz;obtain⟨h1,h2⟩:=af h;obtain⟨h3,h4⟩:=ak h1;have h3:=dH h3;obtain⟨hlen,hv,_⟩:=ep (σ:=σ) h4;have hzs:z.cells.size=i.size:=by simpa using hlen
    unfold se at h2
    split at h2
    .rename_i c hfill;obtain⟨h5,h6⟩:=af h2;cases h6;have hrange:br σ (dD len z.cells.toList) ((Array.range (len*i.size)).map (λj=>z.cells[j % z.cells.size]!)).toList:=by
      rw[<-hzs,jy];refine⟨rfl,λj u u' a b=>?_⟩;rw[a]at b;cases b;have hj:j<len*z.cells.toList.length:=by rw[<-lz];exact(List.getElem?_eq_some_iff.1 a).1
      rw[lC _ _ _ hj]at a;exact hv.2 _ u u a a
     obtain⟨c1,c',he,hf,hc⟩:=fR (place':=λk=>Y (k*i.size,i.size)) (λk x hx=>hx) ps _ _ _ hP hrange hfill;cases he;refine⟨ψ (Y ⟨w.heap.size,0,ω⟩) len len,.cells c' e,_,0,?_,dW w _,OR.of_vrs hc,λσ' n hn _=>lD hn (CR.cx _) (λh=>(zC _ h).elim)⟩;have hbig:¬2 ^ 24<len*i.size:=U;by_cases h0:len*i.size=0
     .have hf':Instr.fill (λk=>Y (k*i.size,i.size)) #[] (ops.map λ(i,x)=>(i,ρ x)).toList=Y c':=by
       rw[h0]at hf;rw[show Array.range 0 = #[] from rfl,Array.map_empty]at hf;exact hf
      simp only[execOp,ho,Instr.buildSlice,Sem.run_bind,ap hd,Result.andThen_ok,a9 hi,h0,if_true,Sem.run_pure,gt_iff_lt,Nat.not_lt_zero,if_false];simp only[show Array.range 0 = #[] from rfl,Array.map_empty,hf',newRow,Sem.run_bind,eV,Result.andThen_ok,Sem.run_pure]
     .simp only[execOp,ho,Instr.buildSlice,Sem.run_bind,ap hd,Result.andThen_ok,a9 hi,h0,if_false,Sem.run_pure,gt_iff_lt,hbig,ec hi hz,hf,newRow,eV]
    .cases h2
   .cases h
  .cases h
 .cases h
theorem yh {o:Oper}{ρ:Operand->Value}{t:TypeId}{r:Option Operand}(ho:o.op = .makeMap t r){fr:Fr}(hr:∀x,r=Y x->VR σ (ev fr x) (ρ x)){ob:AO}{f:Nat->Value}
  (h:Fk (P.underlying t) (r.map (ev fr))=Y (ob,f)):ja P σ w (execOp ρ o) ob f:=by
 have hmap:∀σ':aH,aH.le σ σ'->σ'.e w.heap.size=0->OR P σ' w.heap.size (.map [] 0) (.map #[] 0):=λ_ _ _=>.map rfl (λi k v b h=>by simp at h);unfold Fk at h
 split at h
 .rename_i kt e hd hr0;cases h;have:r=none:=by cases r <;>simp_all
  subst this;exact⟨.map (Y w.heap.size),_,_,0,by simp[execOp,ho,Instr.makeMap,eV],dW w _,hmap,λσ' n hn _=>.map hn⟩
 .rename_i kt e y hd hr0
  split at h
  .rename_i n hn;cases h;cases r with
   | none=>simp at hr0
   | some x=>
    simp at hr0;subst hr0;obtain⟨k,hk⟩:=cd (hr x rfl) hn;exact⟨.map (Y w.heap.size),_,_,0,by simp[execOp,ho,Instr.makeMap,ap hd,hk,asInt,asIntOf,eV],dW w _,hmap,λσ' n hn _=>.map hn⟩
  .cases h
 .cases h
theorem pX {n:Nat}(h:n<1000000):IntKind.i64.wrap (n:Int)=n:=by
 exact IntWalk.i64_in _ U
theorem mV {o:Oper}{ρ:Operand->Value}{t:TypeId}{x y:Operand}(ho:o.op = .makeSlice t x y){u v:Value}(hx:VR σ u (ρ x)) (hy:VR σ v (ρ y)){ob:AO}{f:Nat->Value}
  (h:fg P (P.underlying t) (bW u) (bW v)=Y (ob,f)):ja P σ w (execOp ρ o) ob f:=by
 unfold fg at h
 split at h
 .rename_i e l c hd hl hc;obtain⟨k1,e1⟩:=cd hx hl;obtain⟨k2,e2⟩:=cd hy hc;unfold zw at h
  split at h
  .rename_i i hi
   split at h
   .rename_i z hz;obtain⟨h1,h2⟩:=af h;cases h2;obtain⟨h1,h3⟩:=ak h1;obtain⟨h1,h4⟩:=ak h1;obtain⟨h5,h6⟩:=ak h1;have h4:=dH h4;have h5:=gc h5;have h6:=dH h6;obtain⟨hlen,hv,_⟩:=ep (σ:=σ) h3;have hzs:z.cells.size=i.size:=by simpa using hlen
    have wl:IntKind.i64.wrap (l:Int)=l:=pX U;have wc:IntKind.i64.wrap (c:Int)=c:=pX U;have hb:i.bytes*c<=10000*1000000:=Nat.mul_le_mul U U;have hrange:br σ (dD c z.cells.toList) ((Array.range (c*i.size)).map (λj=>z.cells[j % z.cells.size]!)).toList:=by
     rw[<-hzs,jy];refine⟨rfl,λj u u' a b=>?_⟩;rw[a]at b;cases b;have hj:j<c*z.cells.toList.length:=by rw[<-lz];exact(List.getElem?_eq_some_iff.1 a).1
     rw[lC _ _ _ hj]at a;exact hv.2 _ u u a a
    refine⟨ψ (Y ⟨w.heap.size,0,ω⟩) l c,.cells ((Array.range (c*i.size)).map (λj=>z.cells[j % z.cells.size]!)) e,_,0,?_,dW w _,OR.of_vrs hrange,λσ' n hn _=>lD hn (CR.cx _) (λh=>(zC _ h).elim)⟩;have hbi:¬(2 ^ 48:Int)<(i.bytes:Int)*(c:Int):=by
     have:((i.bytes*c:Nat):Int)<=10000000000:=U;rw[Int.natCast_mul]at this;omega
    have htl:((c:Int)<0 || decide ((i.bytes:Int)*(c:Int) > 2 ^ 48))=false:=by simp;omega
    have hcond:¬(((c:Int)<0 || decide ((i.bytes:Int)*(c:Int) > 2 ^ 48))=true\/(l:Int)<0\/(l:Int) > (c:Int)):=by
     rw[htl];simp;omega
    have hroom:(askRoom (c*i.bytes)).run P w = .ok () w:=by
     unfold askRoom roomBytes;have:¬c*i.bytes > 2 ^ 47:=by rw[Nat.mul_comm];omega
     simp[this]
    have hcond':(((c:Int)<0 || decide ((i.bytes:Int)*(c:Int) > 2 ^ 48)) || decide ((l:Int)<0) || decide ((l:Int) > (c:Int)))=false:=by
     rw[htl];simp;omega
    by_cases h0:c*i.size=0
    .have hr0:(Array.range (c*i.size)).map (λj=>z.cells[j % z.cells.size]!) = #[]:=by rw[h0,show Array.range 0 = #[] from rfl,Array.map_empty]
     rw[hr0];simp only[execOp,ho,Instr.makeSlice,Sem.run_bind,ap hd,Result.andThen_ok,e1,e2,asInt,asIntOf,Sem.run_pure,hZ hi,wl,wc,hcond',Bool.false_eq_true,if_false,Int.toNat_natCast,hroom,a9 hi,h0,if_true];simp only[show Array.range 0 = #[] from rfl,Array.map_empty,newRow,Sem.run_bind,eV,Result.andThen_ok,Sem.run_pure]
    .simp only[execOp,ho,Instr.makeSlice,Sem.run_bind,ap hd,Result.andThen_ok,e1,e2,asInt,asIntOf,Sem.run_pure,hZ hi,wl,wc,hcond',Bool.false_eq_true,if_false,Int.toNat_natCast,hroom,a9 hi,h0,ec hi hz,newRow,eV]
   .cases h
  .cases h
 .cases h
theorem ug {o:Oper}{ρ:Operand->Value}{s d:TypeId}{x:Operand}(ho:o.op = .convert s d x){u:Value}(hx:VR σ u (ρ x)){ob:AO}{f:Nat->Value}
  (h:tW P (P.underlying s) (P.underlying d) u=Y (ob,f)):ja P σ w (execOp ρ o) ob f:=by
 unfold tW at h
 split at h
 .rename_i e b hs hd
  split at h
  .rename_i i0 he hi0;obtain⟨hs1,h⟩:=af h;have hs1:=aq hs1;cases h;have hρ:ρ x = .string b:=by generalize ρ x=x' at hx;cases hx;rfl
   have hconv:(convert s d (.string b)).run P w=(Conv.stringToBytes e b).run P w:=by simp[convert,ap hs,ap hd,ap he]
   let cap:=(Question.appendCap b.size 0 e).cut (w.tape w.drawn (.appendCap b.size 0 e))
   have hcap:b.size<=cap:=Nat.le_add_right _ _
   let arr:Array Value:=b.data.map (λc=>Value.int .u8 c.toNat) ++ Array.replicate (cap - b.size) (.int .u8 0)
   have hfr:∀(W:World) (n:Nat),W.heap=w.heap.push (.cells arr e)->(freeze ⟨w.heap.size,n,ω⟩ 1).run P W = .ok () { W with heap:=w.heap.push (.cells arr e (n,n+1)) }:=by
    intro W n hW;have e1:(W.heap.modify w.heap.size fun | .cells c elem (lo,hi)=>.cells c elem (if lo == hi then(n,n+1) else(min lo n,max hi (n+1))) | o=>o)=w.heap.push (.cells arr e (n,n+1)):=by
     rw[hW];apply Array.ext
     .simp
     .intro i h1 h2;rw[Array.getElem_modify];rw[Array.getElem_push,Array.getElem_push];by_cases hi:i<w.heap.size
      .have:¬w.heap.size=i:=U;simp[hi,this]
      .have:w.heap.size=i:=by simp at h2;omega
       simp[this]
    simp only[freeze,Sem.run,World.freeze,Nat.one_ne_zero,if_false]
    congr 2
   refine⟨ψ (Y ⟨w.heap.size,0,ω⟩) b.size cap,.cells arr e (arr.size,arr.size+1),{ w with drawn:=w.drawn+1,heap:=w.heap.push (.cells arr e (arr.size,arr.size+1)) },cap,?_,⟨rfl,rfl,rfl,rfl,Nat.le_succ _⟩,λσ' hle hE=>?_,λσ' n hn hE=>lD hn (CR.cl hcap) (λ_=>by rw[hE];exact Nat.le_refl _)⟩
   .have hW:=hfr { w with drawn:=w.drawn+1,heap:=w.heap.push (.cells arr e) } arr.size rfl;have hrow:(newRow e arr).run P { w with drawn:=w.drawn+1 } = .ok ⟨w.heap.size,0,ω⟩ { w with drawn:=w.drawn+1,heap:=w.heap.push (.cells arr e) }:=rfl;have hch:(choose (.appendCap b.size 0 e)).run P w = .ok cap { w with drawn:=w.drawn+1 }:=by
     simp[choose,Sem.run,Question.forced,cap]
    have hmark:(markStringish ⟨w.heap.size,0,ω⟩).run P { w with drawn:=w.drawn+1,heap:=w.heap.push (.cells arr e) } = .ok () { w with drawn:=w.drawn+1,heap:=w.heap.push (.cells arr e (arr.size,arr.size+1)) }:=by
     have hsh:(shape w.heap.size).run P { w with drawn:=w.drawn+1,heap:=w.heap.push (.cells arr e) } = .ok (Y (e,arr.size)) { w with drawn:=w.drawn+1,heap:=w.heap.push (.cells arr e) }:=by
      simp[shape,Sem.run,World.shape?]
     simp only[markStringish,Sem.run_bind,hsh,Result.andThen_ok];exact hW
    have hsb:(Conv.stringToBytes e b).run P w = .ok (ψ (Y ⟨w.heap.size,0,ω⟩) b.size cap) { w with drawn:=w.drawn+1,heap:=w.heap.push (.cells arr e (arr.size,arr.size+1)) }:=by
     simp only[Conv.stringToBytes,Sem.run_bind,hch,Result.andThen_ok];rw[show(b.data.map (λc=>Value.int .u8 c.toNat) ++ Array.replicate (cap - b.size) (Value.int .u8 0))=arr from rfl,hrow];simp only[Result.andThen_ok,hmark,Sem.run_pure]
    simp only[execOp,ho,Sem.run_bind,hρ,hconv,hsb,Result.andThen_ok,Sem.run_pure]
   .refine .cells (λi v hv=>?_) (λ_=>.inr (Nat.le_refl _)) (λi hi=>?_)
    .rw[List.getElem?_map,Option.map_eq_some_iff]at hv;obtain⟨c,hc,rfl⟩:=hv;refine⟨_,?_,.int _ _⟩;have hi:i<b.data.size:=by have:=(List.getElem?_eq_some_iff.1 hc).1;simpa using this
     simp only[arr];rw[Array.getElem?_append_left (by simpa using hi),Array.getElem?_map];rw[<-Array.getElem?_toList,hc];rfl
    .have:arr.size=b.size+(cap - b.size):=by simp[arr]
     have hi1:i.size=1:=by rw[hi0]at hi;cases hi;exact hs1
     rw[hE,hi1,this];omega
  .cases h
 .cases h
theorem uh {o:Oper}{ρ:Operand->Value}{t:TypeId}{x:Operand}(ho:o.op = .range t x){u:Value}(hx:VR σ u (ρ x)){ob:AO}{f:Nat->Value}
  (h:tX (P.underlying t) u=Y (ob,f)):ja P σ w (execOp ρ o) ob f:=by
 unfold tX at h
 split at h
 .rename_i s hd;cases h;have hρ:ρ x = .string s:=by generalize ρ x=x' at hx;cases hx;rfl
  refine⟨ξ (Y ⟨w.heap.size,0,ω⟩),.stringIter s 0,_,0,?_,dW w _,λ_ _ _=>.iter s 0,λσ' n hn _=>pW hn⟩;simp[execOp,ho,Instr.range,hρ,ap hd,eV]
 .cases h
theorem sy {o:Oper}{fr:Fr}{ρ:Operand->Value}(hE:AZ σ fr ρ o){ob:AO}{f:Nat->Value}(h:AU P o fr=Y (ob,f)):ja P σ w (execOp ρ o) ob f:=by
 unfold AU at h
 split at h
 .rename_i t ho;exact ue ho h
 .rename_i t x ho;exact yg ho (hE x (by simp[ho,Op.operands])) h
 .rename_i t len ps ho;have hP:PS σ (parts fr ps) ((ps.map λ(i,x)=>(i,ρ x)).toList):=oD λx hx=>hE x (by
   simp only[ho,Op.operands];simpa using hx)
  exact lE ho hP h
 .rename_i t r ho;exact yh ho (λx hx=>hE x (by simp[ho,Op.operands,hx])) h
 .rename_i t l c ho;exact mV ho (hE l (by simp[ho,Op.operands])) (hE c (by simp[ho,Op.operands])) h
 .rename_i s d x ho;exact ug ho (hE x (by simp[ho,Op.operands])) h
 .rename_i t x ho;exact uh ho (hE x (by simp[ho,Op.operands])) h
 .cases h
end
end Eva
end
section
open Go Go.RowKit
namespace Eva
section
variable {P:Program}{σ:aH}{w:World}
structure vR (b:Nat) (w w':World):Prop where
 os:w'.os=w.os
 tape:w'.tape=w.tape
 output:w'.output=w.output/\w.drawn<=w'.drawn
 size:w'.heap.size=w.heap.size
 else_:∀x,x≠b->w'.heap[x]? = w.heap[x]?
theorem St.upd' {h h':AH}(hr:HR P σ h w){n b:Nat}(hn:σ n=Y b){o0:AO}(hg:h.get n=Y o0) (hro:∀c e,o0≠.cells c e true){w':World}{o1:AO}{o':Obj}
  (e1:h'.next=h.next) (e2:h'.get n=Y o1) (e3:∀m,m≠n->h'.get m=h.get m)
  (hs:vR b w w') (hb:w'.heap[b]? = Y o') (ho:OR P σ b o1 o'):St P σ h w σ h' w':=by
 have far:∀m c o,σ m=Y c->h.get m=Y o->m≠n->c≠b:=λm c o h1 h2 h3 e=>h3 (hr.inj m n b o o0 (e ▸ h1) hn h2 hg);refine⟨aH.le_refl σ,⟨λm c x=>by rw[hs.size,e1];exact hr.lt m c x,λm c o x y=>?_,λm k c o p x1 x2 y1 y2=>?_,λm hm=>?_,hr.inv.step (λc _ hc=>hs.else_ c λe=>by
   obtain⟨c1,e4,h4⟩:=hc n o0 (e ▸ hn) hg;exact hro c1 e4 h4) (λm c o x y=>by
   by_cases e:m=n
   .subst e;exact .inr (.inr ⟨m,o0,x,hg,hro⟩)
   .rw[e3 m e]at y;exact .inl ⟨m,x,y⟩)⟩,hs.os,hs.tape,hs.output,by rw[hs.size];exact Nat.le_refl _,by rw[e1];exact Nat.le_refl _,
  (λm c x y=>by rw[y]at x;cases x),λm _ hm=>?_,λc hc hf=>hs.else_ c (λe=>hf n (e ▸ hn)),λm c l e x y=>?_⟩
 .by_cases e:m=n
  .subst e;rw[hn]at x;cases x;rw[e2]at y;cases y;exact⟨o',hb,ho⟩
  .rw[e3 m e]at y;obtain⟨q,q1,q2⟩:=hr.obj m c o x y;exact⟨q,by rw[hs.else_ c (far m c o x y e)];exact q1,q2⟩
 .have g:∀j q,h'.get j=Y q->∃q',h.get j=Y q':=λj q hj=>by
   by_cases e:j=n
   .subst e;exact⟨o0,hg⟩
   .rw[e3 j e]at hj;exact⟨q,hj⟩
  obtain⟨q1,r1⟩:=g m o y1;obtain⟨q2,r2⟩:=g k p y2;exact hr.inj m k c q1 q2 x1 x2 r1 r2
 .rw[e1]at hm;have:m≠n:=λe=>by have:=(hr.lt n b hn).1;subst e;exact absurd hm (Nat.not_le_of_lt this)
  rw[e3 m this];exact hr.none m hm
 .have:m≠n:=λe=>by subst e;rw[hn]at hm;cases hm
  exact e3 m this
 .have hne:m≠n:=λe1=>by subst e1;rw[hg]at y;cases y;exact hro _ _ rfl
  exact⟨by rw[e3 m hne];exact y,hs.else_ c (far m c _ x y hne)⟩
theorem St.upd {h:AH}(hr:HR P σ h w){n b:Nat}(hn:σ n=Y b){o0:AO}(hg:h.get n=Y o0) (hro:∀c e,o0≠.cells c e true){w':World}{o1:AO}{o':Obj}
  (hs:vR b w w') (hb:w'.heap[b]? = Y o') (ho:OR P σ b o1 o'):St P σ h w σ (h.put n o1) w':=
 St.upd' hr hn hg hro rfl (AH.get_put h n o1) (λm hm=>AH.get_put_ne h o1 (Ne.symm hm)) hs hb ho
theorem St.regrow {h:AH}(hr:HR P σ h w){n b:Nat}(hn:σ n=Y b){o0:AO}(hg:h.get n=Y o0) (hro:∀c e,o0≠.cells c e true){w':World}{o1:AO}{o':Obj}
  (hs:vR b w w') (hb:w'.heap[b]? = Y o') (ho:∀σ':aH,aH.le σ σ'->σ'.e b=σ.e b->OR P σ' b o1 o') :
  St P σ h w (σ.put h.next b (σ.e b)) ((h.del n).new o1) w':=by
 have hnn:n≠h.next:=λe=>by have:=(hr.lt n b hn).1;omega
 have h0:σ h.next=none:=by
  cases hq:σ h.next with
  | none=>rfl
  | some c=>exact absurd (hr.lt _ _ hq).1 (Nat.lt_irrefl _)
 have hle:aH.le σ (σ.put h.next b (σ.e b)):=λm c hc=>by
  have:m≠h.next:=λe=>by rw[e,h0]at hc;cases hc
  refine⟨by rw[aH.put_ne σ _ _ this];exact hc,?_⟩;by_cases e:c=b
  .subst e;exact aH.put_e _ _ _ _
  .exact aH.put_e_ne _ _ _ e
 have cases_:∀m c,(σ.put h.next b (σ.e b)) m=Y c->(m=h.next/\c=b)\/(m≠h.next/\σ m=Y c):=λm c hc=>by
  by_cases e:m=h.next
  .subst e;rw[aH.put_same]at hc;cases hc;exact .inl ⟨rfl,rfl⟩
  .rw[aH.put_ne σ _ _ e]at hc;exact .inr ⟨e,hc⟩
 have far:∀m c o,σ m=Y c->h.get m=Y o->m≠n->c≠b:=λm c o h1 h2 h3 e=>h3 (hr.inj m n b o o0 (e ▸ h1) hn h2 hg);have gnew:((h.del n).new o1).get h.next=Y o1:=AH.get_new (h.del n) o1;have gn:((h.del n).new o1).get n=none:=by
  rw[AH.get_new_ne (h.del n) o1 (show(h.del n).next≠n from Ne.symm hnn)];exact AH.get_del h n
 have gelse:∀m,m≠n->m≠h.next->((h.del n).new o1).get m=h.get m:=λm e1 e2=>by
  rw[AH.get_new_ne (h.del n) o1 (show(h.del n).next≠m from Ne.symm e2)];exact AH.get_del_ne h (Ne.symm e1)
 have hnx:((h.del n).new o1).next=h.next+1:=rfl;refine⟨hle,⟨λm c x=>?_,λm c o x y=>?_,λm k c o p x1 x2 y1 y2=>?_,λm hm=>?_,hr.inv.step (λc _ hc=>hs.else_ c λe=>by
   obtain⟨c1,e4,h4⟩:=hc n o0 (e ▸ hn) hg;exact hro c1 e4 h4) (λm c o x y=>by
   rcases cases_ m c x with⟨rfl,rfl⟩ | ⟨e,x⟩
   .exact .inr (.inr ⟨n,o0,hn,hg,hro⟩)
   .by_cases e1:m=n
    .subst e1;rw[gn]at y;cases y
    .rw[gelse m e1 e]at y;exact .inl ⟨m,x,y⟩)⟩,hs.os,hs.tape,hs.output,by rw[hs.size];exact Nat.le_refl _,by rw[hnx];omega,
  λm c x y=>?_,λm hlt hm=>?_,λc hc hf=>hs.else_ c (λe=>hf n (e ▸ hn)),λm c l e x y=>?_⟩
 .rw[hs.size,hnx];rcases cases_ m c x with⟨rfl,rfl⟩ | ⟨_,x⟩
  .exact⟨U,(hr.lt n _ hn).2⟩
  .have:=hr.lt m c x;exact⟨U,this.2⟩
 .rcases cases_ m c x with⟨rfl,rfl⟩ | ⟨e,x⟩
  .rw[gnew]at y;cases y;exact⟨o',hb,ho _ hle (aH.put_e _ _ _ _)⟩
  .by_cases e1:m=n
   .subst e1;rw[gn]at y;cases y
   .rw[gelse m e1 e]at y;obtain⟨q,q1,q2⟩:=hr.obj m c o x y;exact⟨q,by rw[hs.else_ c (far m c o x y e1)];exact q1,q2.mono hle (hle m c x).2⟩
 .rcases cases_ m c x1 with⟨rfl,rfl⟩ | ⟨e1,z1⟩
  .rcases cases_ k _ x2 with⟨rfl,_⟩ | ⟨e2,z2⟩
   .rfl
   .by_cases e3:k=n
    .subst e3;rw[gn]at y2;cases y2
    .rw[gelse k e3 e2]at y2;exact absurd rfl (far k _ p z2 y2 e3)
  .rcases cases_ k c x2 with⟨rfl,rfl⟩ | ⟨e2,z2⟩
   .by_cases e3:m=n
    .subst e3;rw[gn]at y1;cases y1
    .rw[gelse m e3 e1]at y1;exact absurd rfl (far m _ o z1 y1 e3)
   .by_cases e3:m=n
    .subst e3;rw[gn]at y1;cases y1
    .by_cases e4:k=n
     .subst e4;rw[gn]at y2;cases y2
     .rw[gelse m e3 e1]at y1;rw[gelse k e4 e2]at y2;exact hr.inj m k c o p z1 z2 y1 y2
 .rw[hnx]at hm;by_cases e:m=n
  .subst e;exact gn
  .rw[gelse m e U];exact hr.none m U
 .rcases cases_ m c x with⟨rfl,rfl⟩ | ⟨_,x⟩
  .exact⟨Nat.le_refl _,.inr ⟨n,hn⟩⟩
  .rw[y]at x;cases x
 .have:m≠n:=λe=>by subst e;rw[hn]at hm;cases hm
  exact gelse m this U
 .have hne:m≠n:=λe1=>by subst e1;rw[hg]at y;cases y;exact hro _ _ rfl
  have hlt:=(hr.lt m c x).1;exact⟨by rw[gelse m hne U];exact y,hs.else_ c (far m c _ x y hne)⟩
def ib:Array Value->Nat->List Value->Array Value
 | c,_,[]=>c
 | c,o,v :: r=>ib (c.setIfInBounds o v) (o+1) r
theorem eu:∀(vs:List Value) (c:Array Value) (o:Nat),(ib c o vs).size=c.size
 | [],c,o=>rfl
 | v :: r,c,o=>by rw[ib,eu r];simp
theorem jb:∀(vs:List Value) (c:Array Value) (o:Nat),o+vs.length<=c.size->(ib c o vs).toList=c.toList.take o ++ vs ++ c.toList.drop (o+vs.length)
 | [],c,o,_=>by simp[ib]
 | v :: r,c,o,h=>by
  rw[ib,jb r _ _ (by simp at h⊢;omega)];have:=ia o (v :: r) 0 c (by simpa using h);simp only[List.zipIdx_cons,List.foldl_cons,Nat.add_zero,Nat.zero_add]at this;rw[<-this];have h2:=ia (o+1) r 0 (c.setIfInBounds o v) (by simp at h⊢;omega);rw[Nat.add_zero]at h2;rw[<-h2]
  congr 1
  have:∀(l:List Value) (k:Nat) (A:Array Value),(l.zipIdx k).foldl (λ(cs:Array Value) (p:Value×Nat)=>cs.setIfInBounds (o+1+p.2) p.1) A=(l.zipIdx (k+1)).foldl (λ(cs:Array Value) (p:Value×Nat)=>cs.setIfInBounds (o+p.2) p.1) A:=by
   intro l
   induction l with
   | nil=>intro k A;rfl
   | cons x l ih=>intro k A;simp only[List.zipIdx_cons,List.foldl_cons];rw[ih,show o+1+k=o+(k+1) by omega]
  exact this r 0 _
theorem ui (w:World) (a:Addr) (v:Value):(w.setCell a v).heap.size=w.heap.size:=by simp[World.setCell]
theorem gd (b:Nat):∀(vs:List Value) (o:Nat) (w:World),vR b w (w.setCells b o vs)
 | [],o,w=>⟨rfl,rfl,⟨rfl,Nat.le_refl _⟩,rfl,λ_ _=>rfl⟩
 | v :: r,o,w=>by
  have ih:=gd b r (o+1) (w.setCell ⟨b,o,ω⟩ v);refine⟨ih.os.trans rfl,ih.tape.trans rfl,⟨ih.output.1.trans rfl,ih.output.2⟩,ih.size.trans (ui _ _ _),λx hx=>(ih.else_ x hx).trans ?_⟩;simp only[World.setCell];rw[Array.getElem?_modify];simp[Ne.symm hx]
theorem jc (b:Nat){e:TypeId}{f:Nat×Nat}:∀(vs:List Value) (o:Nat) (w:World) (c:Array Value),w.heap[b]? = Y (.cells c e f)->
  (w.setCells b o vs).heap[b]? = Y (.cells (ib c o vs) e f)
 | [],o,w,c,h=>h
 | v :: r,o,w,c,h=>by
  refine jc b r (o+1) _ _ ?_;simp only[World.setCell];rw[Array.getElem?_modify];simp[h]
theorem PR.take {c c':List Value}(h:PR σ c c') (n:Nat):PR σ (c.take n) (c'.take n):=λi v hv=>by
 rw[List.getElem?_take]at hv⊢
 split at hv
 .rename_i hi;simp only[hi,if_true];exact h i v hv
 .cases hv
theorem PR.drop {c c':List Value}(h:PR σ c c') (n:Nat):PR σ (c.drop n) (c'.drop n):=λi v hv=>by
 rw[List.getElem?_drop]at hv⊢;exact h _ v hv
theorem PR.append {a a' b b':List Value}(ha:PR σ a a') (hl:a.length=a'.length) (hb:PR σ b b'):PR σ (a ++ b) (a' ++ b'):=λi v hv=>by
 rcases Nat.lt_or_ge i a.length with hlt | hge
 .rw[List.getElem?_append_left hlt]at hv;rw[List.getElem?_append_left U];exact ha i v hv
 .rw[List.getElem?_append_right hge]at hv;rw[List.getElem?_append_right U,<-hl];exact hb _ v hv
theorem Dd {v v':Value}(h:VR σ v v') (hf:flat v=true):v'.oneCell' = true:=by cases h <;>first | rfl | (simp[flat]at hf;done) | (simp[flat,rz]at hf)
theorem GL {vs vs':List Value}(h:br σ vs vs') (hf:aV flat vs=true):∀v'∈vs',v'.oneCell' = true:=λv' hm=>by
 obtain⟨i,hi,e⟩:=List.getElem_of_mem hm;have h1:vs'[i]? = Y v':=by rw[List.getElem?_eq_getElem hi,e]
 have hi2:i<vs.length:=by rw[h.1];exact hi
 exact Dd (h.2 i _ _ (List.getElem?_eq_getElem hi2) h1) (aY hf _ (List.getElem_mem hi2))
theorem ic {b:Nat}{c:Array Value}{e:TypeId}{f:Nat×Nat}(hb:w.heap[b]? = Y (.cells c e f)) (hf:f.1=f.2\/c.size<=f.1) (o:Nat) (ho:o<c.size):w.frozen? ⟨b,o,ω⟩=false:=by
 obtain⟨lo,hi⟩:=f;unfold World.frozen?;simp only[hb];simp only at hf;simp;omega
theorem sC {b o:Nat}{c:Array Value}{e:TypeId}{f:Nat×Nat}{vs:List Value}(hb:w.heap[b]? = Y (.cells c e f)) (hf:f.1=f.2\/c.size<=f.1) (hl:o+vs.length<=c.size)
  (h1:∀v∈vs,v.oneCell' = true):(storeCells ⟨b,o,ω⟩ vs).run P w = .ok () (w.setCells b o vs):=by
 have:=run_storeCells_cells (P:=P) b o vs 0 w (λj hj=>by
  rw[t7 hb,Array.getElem?_eq_getElem U];rfl) (λj hj=>ic hb hf _ U) h1
 simpa using this
theorem cG {h h':AH}(hr:HR P σ h w){n b off:Nat}(hn:σ n=Y b){vs vs':List Value}(hv:br σ vs vs') (hs:bM h ⟨n,off,ω⟩ vs=Y h') :
  (storeCells ⟨b,off,ω⟩ vs').run P w = .ok () (w.setCells b off vs')/\St P σ h w σ h' (w.setCells b off vs'):=by
 unfold bM at hs
 split at hs
 .rename_i c e hsp hg;obtain⟨h1,h2⟩:=af hs
  split at h2
  .rename_i c1 hset;cases h2;obtain⟨c',f',hb,hp,hf,_,hroom⟩:=i9 hr hn (c:=c) (e:=e) (f:=false) (by unfold a8;simp at hg⊢;rw[hg]);have hf:=hf rfl;have e1:=pw hset;have hpl:=hp.le;cases vs with
   | nil=>
    have:vs' = []:=List.eq_nil_of_length_eq_zero (by simpa using hv.1.symm);subst this;refine⟨rfl,?_⟩;have:c1=c:=by rw[e1];simp
    subst this;exact St.upd hr hn hg (λ_ _ e=>by cases e) ⟨rfl,rfl,⟨rfl,Nat.le_refl _⟩,rfl,λ_ _=>rfl⟩ hb (.cells (λi v hv=>by obtain⟨v',h1,h2⟩:=hp i v hv;exact⟨v',by simpa using h1,h2⟩) (λ_=>hf) hroom)
   | cons v0 vs=>
    have hfit:=Be c off (v0 :: vs) c1 hset (by simp);have hlen:=hv.1;have hl':off+vs'.length<=c'.size:=by simp at hpl;omega
    refine⟨sC hb hf hl' (GL hv h1),?_⟩;refine St.upd hr hn hg (λ_ _ e=>by cases e) (gd b vs' off w) (jc b vs' off w c' hb) (.cells (λi v hi=>?_) (λ_=>by rw[eu];exact hf) (by rw[eu];exact hroom));have hpr:PR σ c1 (ib c' off vs').toList:=by
     rw[e1,jb _ _ _ hl',<-hlen];refine PR.append (PR.append (hp.take off) ?_ (PR.of_vrs hv)) ?_ (hp.drop _)
     .simp at hpl⊢;omega
     .simp at hpl hlen⊢;omega
    obtain⟨v',q1,q2⟩:=hpr i v hi;exact⟨v',by simpa using q1,q2⟩
  .cases h2
 .cases hs
end
end Eva
end
end Go.Proofs.YtaagdjkinbemcaaGreatDoor
