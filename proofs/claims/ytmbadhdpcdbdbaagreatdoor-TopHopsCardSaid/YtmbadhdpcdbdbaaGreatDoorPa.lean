/-
Lemmas for TopHops. No condition.
-/
import Derived.Test.YtmbadhdpcdbdbaaGreatDoorPz
import Derived.WalkKit
import Derived.ProofKit
import Derived.Laws.BytesString
import Derived.Laws.Tables
import Derived.IntWalk
import Derived.Laws.IdiomCopy
namespace Go.Proofs.YtmbadhdpcdbdbaaGreatDoor
open _root_.Go.Value renaming pointer->ψ,slice->η
open _root_.Option renaming none->ξ,some->ω
set_option linter.unusedVariables false
set_option linter.unusedSimpArgs false
set_option linter.unusedSectionVars false
set_option linter.unnecessarySimpa false
section
open Go Go.RowKit
namespace Eva
inductive Tr (α:Type) where
 | nil
 | node (l:Tr α) (v:Option α) (r:Tr α)
noncomputable section
def Hi {α:Type}(v:Option α) (gl gr:Nat->Option α):Nat->Option α
 | 0=>v
 | k+1=>cond (Nat.beq (k % 2) 0) (gl (k / 2)) (gr (k / 2))
def Tr.get {α:Type}(t:Tr α):Nat->Option α:=
 Tr.rec (motive:=λ_=>Nat->Option α) (λ_=>ξ) (λ_ v _ gl gr k=>Hi v gl gr k) t
def Ab {α:Type}(x:Option α) (ih:Tr α->Nat->Tr α):Nat->Tr α
 | 0=>.node .nil x .nil
 | k+1=>cond (Nat.beq (k % 2) 0) (.node (ih .nil (k / 2)) ξ .nil) (.node .nil ξ (ih .nil (k / 2)))
def Ad {α:Type}(x:Option α) (ih:Tr α->Nat->Tr α) (l:Tr α) (v:Option α) (r:Tr α):Nat->Tr α
 | 0=>.node l x r
 | k+1=>cond (Nat.beq (k % 2) 0) (.node (ih l (k / 2)) v r) (.node l v (ih r (k / 2)))
def pO {α:Type}(x:Option α) (ih:Tr α->Nat->Tr α) (t:Tr α) (k:Nat):Tr α:=
 match t with
 | .nil=>Ab x ih k
 | .node l v r=>Ad x ih l v r k
def Tr.setF {α:Type}(x:Option α) (f:Nat):Tr α->Nat->Tr α:=
 Nat.rec (motive:=λ_=>Tr α->Nat->Tr α) (λt _=>t) (λ_ ih t k=>pO x ih t k) f
def Tr.set {α:Type}(t:Tr α) (k:Nat) (x:Option α):Tr α:=Tr.setF x (k+1) t k
inductive AO where
 | cells (c:List Value) (elem:TypeId) (fr:Bool)
 | map (es:List (Value×Value×Nat)) (clock:Nat)
 | iter (s:ByteArray) (pos:Nat)
structure AH where
 next:Nat
 t:Tr AO
def AH.get (h:AH) (n:Nat):Option AO:=h.t.get n
def AH.put (h:AH) (n:Nat) (o:AO):AH:=⟨h.next,h.t.set n (ω o)⟩
def AH.del (h:AH) (n:Nat):AH:=⟨h.next,h.t.set n ξ⟩
def AH.new (h:AH) (o:AO):AH:=⟨h.next+1,h.t.set h.next (ω o)⟩
structure Fr where
 n:Nat
 t:Tr Value
def Fr.get (fr:Fr) (d:Nat):Option Value:=fr.t.get d
def Fr.put (fr:Fr) (d:Nat) (v:Value):Fr:=cond (Nat.blt d fr.n) ⟨fr.n,fr.t.set d (ω v)⟩ fr
def cH:Option Value->Value
 | some v=>v
 | none=>undef
def ev (fr:Fr):Operand->Value
 | .tmp t=>cH (fr.get t)
 | .const v=>v
 | .global g=>ψ (ω ⟨g,0,ξ⟩)
 | .func f=>.func (.func f) #[] #[]
def aU {α:Type}(p:α->Bool) (l:List α):Bool:=List.rec (motive:=λ_=>Bool) true (λx _ ih=>cond (p x) ih false) l
def c9 (ih:Value->Bool):Value->Bool
 | .bool _ | .int _ _ | .float _ _ | .complex _ _ _ | .string _ | .nilFunc | .nilIface=>true
 | ψ ξ | η ξ 0 0 | .map ξ | .chan ξ=>true
 | .func _ f c=>cond (aU ih f.toList) (aU ih c.toList) false
 | .iface _ v=>ih v
 | .agg cs | .tuple cs=>aU ih cs.toList
 | _=>false
def plain (n:Nat):Value->Bool:=Nat.rec (motive:=λ_=>Value->Bool) (λ_=>false) (λ_ ih v=>c9 ih v) n
def pl (v:Value):Bool:=plain 6 v
def pP (ih:Value->Value->Bool):List Value->List Value->Bool
 | [],[]=>true
 | x :: xs,y :: ys=>cond (ih x y) (pP ih xs ys) false
 | _,_=>false
def lA (a b:Addr):Bool:=cond (Nat.beq a.block b.block) (cond (Nat.beq a.off b.off) (match a.spot,b.spot with | none,ξ=>true | some i,ω j=>Nat.beq i j | _,_=>false) false) false
def mG (ih:Value->Value->Bool) (u v:Value):Bool:=
 match u,v with
  | .bool a,.bool b=>a == b
  | .int k a,.int l b=>k == l && a == b
  | .string a,.string b=>a.data.toList == b.data.toList
  | ψ ξ,ψ ξ=>true
  | ψ (ω a),ψ (ω b)=>lA a b
  | η ξ l c,η ξ m d=>Nat.beq l m && Nat.beq c d
  | .slice (ω a) l c,.slice (ω b) m d=>lA a b && Nat.beq l m && Nat.beq c d
  | .map ξ,.map ξ=>true
  | .map (ω a),.map (ω b)=>Nat.beq a b
  | .nilFunc,.nilFunc=>true
  | .nilIface,.nilIface=>true
  | .iface t a,.iface s b=>Nat.beq t s && ih a b
  | .agg a,.agg b=>pP ih a.toList b.toList
  | .tuple a,.tuple b=>pP ih a.toList b.toList
  | .func (.func a) f c,.func (.func b) f' c'=>Nat.beq a b && pP ih f.toList f'.toList && pP ih c.toList c'.toList
  | _,_=>false
def CQ (n:Nat):Value->Value->Bool:=Nat.rec (motive:=λ_=>Value->Value->Bool) (λ_ _=>false) (λ_ ih u v=>mG ih u v) n
def ay {α:Type}(P:Program) (s:Sem α):Option α:=
 Sem.rec (motive:=λ_=>Option α) (λa=>ω a) (λ_ _ _ _=>ξ) (λ_ _ _ _ _=>ξ) (λ_ _ _=>ξ) (λ_ _ _=>ξ) (λ_ _ _ _=>ξ)
  (λ_ _ _=>ξ) (λ_ _ _=>ξ) (λ_ _ _ _=>ξ) (λ_ _ _=>ξ) (λ_ _ _=>ξ) (λ_ ih=>ih P) (λ_ _ ih=>ih) (λ_=>ξ) s
def io:TypeDesc->Bool
 | .struct _ | .array _ _=>true
 | _=>false
def nF (l:List Value) (o n:Nat):Option (List Value):=
 let r:=(l.drop o).take n
 cond (Nat.beq r.length n) (ω r) ξ
def tz (d:TypeDesc) (i:TypeInfo) (c:List Value) (o:Nat):Option Value:=
 cond (io d) ((nF c o i.size).map λl=>.agg l.toArray) c[o]?
def gD (P:Program) (t:TypeId) (c:List Value) (o:Nat):Option Value:=
 match P.underlying t,P.info? t with
 | some d,ω i=>tz d i c o
 | _,_=>ξ
def ii:List Value->Nat->List Value->Option (List Value)
 | c,_,[]=>ω c
 | [],_,_ :: _=>ξ
 | _ :: c,0,v :: vs=>(ii c 0 vs).map (v :: ·)
 | x :: c,o+1,vs=>(ii c o vs).map (x :: ·)
def flat:Value->Bool
 | .agg _ | .tuple _=>false
 | .chan (ω _)=>false
 | _=>true
def pQ:Value:=.chan (ω 0)
def ED:Value->Bool
 | .bool _=>false
 | _=>true
def Ee:Value->Bool
 | .chan (ω _)=>false
 | _=>true
def aY (h:AH) (n:Nat):Option (List Value×TypeId×Bool):=
 match h.get n with
 | some (.cells c e f)=>ω (c,e,f)
 | _=>ξ
def jo (h:AH) (a:Addr) (n:Nat):Option (List Value):=
 match a.spot,aY h a.block with
 | none,ω (c,_,_)=>nF c a.off n
 | _,_=>ξ
def fp (h:AH) (size n:Nat):Value->Option (List Value)
 | .slice (ω a) _ _=>cond (Nat.beq (n*size) 0) (ω []) (jo h a (n*size))
 | η ξ _ _=>ω []
 | .string s=>ω ((s.data.toList.take n).map λb=>.int .u8 b.toNat)
 | _=>ξ
def Ae:Value->Option Nat
 | η _ n _=>ω n
 | .string s=>ω s.size
 | _=>ξ
def bY:Value->Option Nat
 | .int _ (.ofNat n)=>ω n
 | _=>ξ
def cx (c:Nat):Nat:=2*c
def cl (c:Nat):Nat:=2*c+1
def eG:Value:=η (ω ⟨0,0,ω 0⟩) 0 1
def fq:List Value->Option (List UInt8)
 | []=>ω []
 | .int .u8 (.ofNat n) :: r=>(fq r).map (n.toUInt8 :: ·)
 | _=>ξ
def nG (a:Option Addr) (c low size:Nat):Option Addr:=cond (Nat.beq c low) a (a.map (·.add (low*size)))
def nH (size:Nat) (a:Option Addr) (c low h:Nat):Value:=.slice (nG a c low size) (h - low) (cx (c - low))
def nI (size:Nat) (a:Option Addr) (c low h:Nat):Value:=
 cond (Nat.blt low c) (.slice (a.map (·.add (low*size))) (h - low) (cl (c - low))) eG
def cT (size:Nat) (a:Option Addr) (len K low:Nat) (high max:Option Nat):Option Value:=
 match max with
 | some m=>cond (Nat.ble m (K / 2) && Nat.ble (high.getD len) m && Nat.ble low (high.getD len)) (ω (nH size a m low (high.getD len))) ξ
 | none=>cond (Nat.ble (high.getD len) (K / 2) && Nat.ble low (high.getD len))
   (ω (cond (Nat.beq (K % 2) 0) (nH size a (K / 2) low (high.getD len)) (nI size a (K / 2) low (high.getD len)))) ξ
def ip (fr:Fr):Option Operand->Option (Option Nat)
 | none=>ω ξ
 | some x=>(bY (ev fr x)).map ω
def nJ:Option Next->Option Value
 | some (.value v)=>cond (pl v) (ω v) ξ
 | _=>ξ
def zQ (P:Program) (o:Oper) (fr:Fr):Option Value:=
 cond (aU (λx=>pl (ev fr x)) o.op.operands.toList) (nJ (ay P (execOp (ev fr) o))) ξ
def Af (c a b:Value):Option Value:=
 match c with
 | .bool t=>ω (cond t a b)
 | _=>ξ
def ia (P:Program) (t:TypeId) (x:Value) (h:AH):Option Value:=
 match x with
 | ψ (ω a)=>match a.spot,aY h a.block with
  | none,ω (c,_,_)=>gD P t c a.off
  | _,_=>ξ
 | _=>ξ
def C4 (x:Value):Option Value:=
 match x with
 | ψ (ω a)=>ω (ψ (ω a))
 | .func (.func f) a b=>ω (.func (.func f) a b)
 | .iface t v=>ω (.iface t v)
 | _=>ξ
def rz (P:Program) (t:TypeId) (x:Value):Option Value:=
 match P.underlying t with
 | some (.interface _)=>ξ
 | some _=>ω (.iface t x)
 | none=>ξ
def aG (P:Program) (e:TypeId) (a:Option Addr) (len K:Nat) (l:Option Nat) (hh m:Option Nat):Option Value:=
 match P.info? e with
 | some i=>match a with
  | none=>cond (Nat.beq len 0 && Nat.beq K 0 && Nat.beq (l.getD 0) 0 && Nat.beq (hh.getD 0) 0 && Nat.beq (m.getD 0) 0 && (m.isNone || hh.isSome)) (ω (η ξ 0 0)) ξ
  | some b=>match b.spot with
   | none=>cond (m.isNone || hh.isSome) (cT i.size a len K (l.getD 0) hh m) ξ
   | some _=>ξ
 | none=>ξ
def rA (P:Program) (n:Nat) (e:TypeId) (b:Addr) (l:Option Nat) (hh:Option Nat):Option Value:=
 match P.info? e,b.spot with
 | some i,ξ=>cT i.size (ω b) n (cx n) (l.getD 0) hh ξ
 | _,_=>ξ
def vv (P:Program) (o:Oper) (fr:Fr) (d:Option TypeDesc) (x:Value) (lo hi mx:Option (Option Nat)):Option Value:=
 match x with
 | .string _=>zQ P o fr
 | .slice a len K=>match d,lo,hi,mx with
  | some (.slice e),ω l,ω hh,ω m=>aG P e a len K l hh m
  | _,_,_,_=>ξ
 | ψ (ω b)=>match d,lo,hi,mx with
  | some (.array n e),ω l,ω hh,ω ξ=>rA P n e b l hh
  | _,_,_,_=>ξ
 | _=>ξ
def gE (P:Program) (d:Option TypeDesc) (x:Value) (f:Nat):Option Value:=
 match d,x with
 | some (.struct fields),ψ (ω a)=>match fields[f]?,a.spot with
  | some fd,ξ=>match P.info? fd.type with
   | some i=>cond (Nat.beq i.size 0) ξ (ω (ψ (ω (a.add fd.offset))))
   | none=>ξ
  | _,_=>ξ
 | _,_=>ξ
def rB (P:Program) (d:Option TypeDesc) (x:Value) (f:Nat):Option Value:=
 match d,x with
 | some (.struct fields),.agg cs=>match fields[f]? with
  | some fd=>gD P fd.type cs.toList fd.offset
  | none=>ξ
 | _,_=>ξ
def idx (P:Program) (e:TypeId) (a:Addr) (len i:Nat):Option Value:=
 match P.info? e,a.spot with
 | some inf,ξ=>cond (Nat.blt i len) (ω (ψ (ω (a.add (i*inf.size))))) ξ
 | _,_=>ξ
def dI (P:Program) (d:Option TypeDesc) (x:Value) (i:Option Nat):Option Value:=
 match d,x,i with
 | some (.slice e),.slice (ω a) len _,ω i=>idx P e a len i
 | some (.array n e),ψ (ω a),ω i=>idx P e a n i
 | _,_,_=>ξ
def iq (P:Program) (d:Option TypeDesc) (x:Value) (i:Option Nat):Option Value:=
 match d,x,i with
 | some (.array n e),.agg cs,ω i=>match P.info? e with
  | some inf=>cond (Nat.blt i n) (gD P e cs.toList (i*inf.size)) ξ
  | none=>ξ
 | some .string,.string s,ω i=>match s.data.toList[i]? with
  | some b=>ω (.int .u8 b.toNat)
  | none=>ξ
 | _,_,_=>ξ
def kg (x:Value) (i:Nat):Option Value:=
 match x with
 | .tuple vs=>vs.toList[i]?
 | _=>ξ
def nK (i:Nat) (v:Value) (more:Option (Option (Nat×Value))):Option Bool->Option (Option (Nat×Value))
 | some true=>ω (ω (i,v))
 | some false=>more
 | none=>ξ
def fT (P:Program) (kt:TypeId) (k:Value) (l:List (Value×Value×Nat)):Nat->Option (Option (Nat×Value)):=
 List.rec (motive:=λ_=>Nat->Option (Option (Nat×Value))) (λ_=>cond (pl k) (ω ξ) ξ)
  (λe _ ih i=>cond (pl k && pl e.1) (nK i e.2.1 (ih (i+1)) (ay P (Op.equal kt k e.1))) ξ) l
def kh (h:AH):Option Nat->Option (List (Value×Value×Nat))
 | none=>ω []
 | some n=>match h.get n with
  | some (.map es _)=>ω es
  | _=>ξ
def rC (ok:Bool) (z:Option Value):Option (Option (Nat×Value))->Option Value
 | some (ω (_,v))=>ω (cond ok (.tuple #[v,.bool true]) v)
 | some ξ=>match z with
  | some z=>cond (pl z) (ω (cond ok (.tuple #[z,.bool false]) z)) ξ
  | none=>ξ
 | none=>ξ
def ki (P:Program) (kt:TypeId) (empty:Bool) (k:Value):Bool:=
 match ay P (Instr.checkKey empty 10000 kt k) with
 | some _=>true
 | none=>false
def bE (P:Program) (d:Option TypeDesc) (x k:Value) (ok:Bool) (h:AH):Option Value:=
 match d,x with
 | some (.map kt e),.map r=>match kh h r,P.info? e with
  | some es,ω i=>cond (pl k && ki P kt es.isEmpty k) (rC ok i.zero (fT P kt k es 0)) ξ
  | _,_=>ξ
 | _,_=>ξ
def nL:Option TypeDesc->Bool
 | some (.interface _)=>true
 | _=>false
def vw:Option TypeDesc->Bool
 | some (.pointer _)=>true
 | _=>false
def cV:Option TypeDesc->Bool
 | some (.slice _)=>true
 | _=>false
def rD:Option TypeDesc->Bool
 | some (.func _ _ _)=>true
 | _=>false
def gF:Option TypeDesc->Bool
 | some (.map _ _)=>true
 | _=>false
def kj (d:Option TypeDesc) (x y:Value):Bool:=
 match x,y with
 | .iface _ _,.nilIface | .nilIface,.iface _ _=>nL d
 | ψ (ω _),ψ ξ | ψ ξ,ψ (ω _)=>vw d
 | .slice (ω _) _ _,η ξ _ _=>cV d
 | .func _ _ _,.nilFunc=>rD d
 | .map (ω _),.map ξ=>gF d
 | _,_=>false
def Ag (op:BinOp) (P:Program) (o:Oper) (fr:Fr):Bool->Option Value
 | true=>match op with
  | .eql=>ω (.bool false)
  | .neq=>ω (.bool true)
  | _=>ξ
 | false=>zQ P o fr
def qu (op:BinOp) (k:IntKind) (a b:Int) (other:Option Value):Option Value:=
 match op with
 | .add=>ω (.int k (k.wrap (a+b)))
 | .sub=>ω (.int k (k.wrap (a - b)))
 | .mul=>ω (.int k (k.wrap (a*b)))
 | .eql=>ω (.bool (a == b))
 | .neq=>ω (.bool (a != b))
 | .lss=>ω (.bool (decide (a<b)))
 | .leq=>ω (.bool (decide (a<=b)))
 | .gtr=>ω (.bool (decide (b<a)))
 | .geq=>ω (.bool (decide (b<=a)))
 | _=>other
def EE (P:Program) (op:BinOp) (t:TypeId) (o:Oper) (fr:Fr) (x y:Value):Option Value:=
 match x,y with
 | .int k a,.int l b=>cond (k == l) (qu op k a b (zQ P o fr)) (zQ P o fr)
 | _,_=>Ag op P o fr (kj (P.underlying t) x y)
def rF (h:AH) (r:Nat):Option Value:=
 match h.get r with
 | some (.map es _)=>ω (.int .i64 es.length)
 | _=>ξ
def yv (P:Program) (o:Oper) (fr:Fr) (h:AH) (d:Option TypeDesc) (x:Value):Option Value:=
 match x with
 | η _ n _=>cond (cV d) (ω (.int .i64 n)) ξ
 | .map (ω r)=>cond (gF d) (rF h r) ξ
 | .string s=>match d with
  | some .string=>ω (.int .i64 s.size)
  | _=>ξ
 | _=>ξ
def vA (d:Option TypeDesc) (x:Value):Option Value:=
 match x with
 | η _ _ K=>cond (cV d && Nat.beq (K % 2) 0) (ω (.int .i64 (K / 2:Nat))) ξ
 | _=>ξ
def vB (c:Call) (fr:Fr):Option Value:=
 match c.args.toList with
 | [x]=>ω (ev fr x)
 | _=>ξ
def fg (P:Program) (c:Call):Option TypeDesc:=
 match c.argTypes.toList with
 | t :: _=>P.underlying t
 | []=>ξ
def nM (P:Program) (o:Oper) (fr:Fr) (h:AH) (c:Call):Option Value:=
 match c.callee with
 | .builtin .len=>match vB c fr with
  | some x=>yv P o fr h (fg P c) x
  | none=>ξ
 | .builtin .cap=>match vB c fr with
  | some x=>vA (fg P c) x
  | none=>ξ
 | _=>zQ P o fr
def Ah (place:Nat->Option (Nat×Nat)) (ih:List Value->Option Value) (cells:List Value) (p:Nat×Value):Option Value:=
 match place p.1 with
 | some (off,size)=>cond (Ee p.2 && (Nat.beq p.2.cells.toList.length size && Nat.ble (off+size) cells.length)) (match ii cells off p.2.cells.toList with
   | some c=>ih c
   | none=>ξ) ξ
 | none=>ξ
def tA (place:Nat->Option (Nat×Nat)) (l:List (Nat×Value)):List Value->Option Value:=
 List.rec (motive:=λ_=>List Value->Option Value) (λcells=>ω (.agg cells.toArray)) (λp _ ih cells=>Ah place ih cells p) l
def fieldAt (P:Program) (fields:Array Field) (k:Nat):Option (Nat×Nat):=
 match fields[k]? with
 | some f=>match P.info? f.type with
  | some i=>ω (f.offset,i.size)
  | none=>ξ
 | none=>ξ
def qv (fr:Fr) (ps:Array (Nat×Operand)):List (Nat×Value):=ps.toList.map λp=>(p.1,ev fr p.2)
def Ai (P:Program) (fields:Array Field):Bool:=aU (λf=>(P.info? f.type).isSome) fields.toList
def rG (P:Program) (d:Option TypeDesc) (i:Option TypeInfo) (ps:List (Nat×Value)):Option Value:=
 match d,i with
 | some (.struct fields),ω i=>match i.zero with
  | some z=>cond (Ai P fields && pl z) (tA (fieldAt P fields) ps z.cells.toList) ξ
  | none=>ξ
 | some (.array _ e),ω i=>match i.zero,P.info? e with
  | some z,ω j=>cond (pl z) (tA (λk=>ω (k*j.size,j.size)) ps z.cells.toList) ξ
  | _,_=>ξ
 | _,_=>ξ
def gG (h:AH) (a:Option Addr) (len:Nat):Option (List Value):=
 match a with
 | none=>ω []
 | some b=>cond (Nat.beq len 0) (ω []) (jo h b len)
def nP (P:Program) (o:Oper) (fr:Fr) (h:AH) (s d:TypeId) (x:Value):Option Value:=
 match x with
 | .slice a len _=>match P.underlying s,P.underlying d with
  | some (.slice e),ω .string=>match P.underlying e with
   | some (.int .u8)=>match gG h a len with
    | some l=>match fq l with
     | some bs=>ω (.string ⟨bs.toArray⟩)
     | none=>ξ
    | none=>ξ
   | _=>ξ
  | _,_=>ξ
 | _=>zQ P o fr
def mY (P:Program) (t:TypeId) (x:Value) (ok:Bool):Option Value:=
 match P.underlying t,x with
 | some (.interface _),_=>ξ
 | some _,.iface u v=>cond (Nat.beq u t) (ω (cond ok (.tuple #[v,.bool true]) v)) ξ
 | _,_=>ξ
def pK (P:Program) (o:Oper) (fr:Fr) (h:AH):Option Value:=
 match o.op with
 | .move x=>ω (ev fr x)
 | .pick c a b=>Af (ev fr c) (ev fr a) (ev fr b)
 | .load t x=>ia P t (ev fr x) h
 | .nilCheck x=>C4 (ev fr x)
 | .makeInterface t x=>rz P t (ev fr x)
 | .makeFunc fn a b=>ω (.func fn (a.map (ev fr)) (b.map (ev fr)))
 | .slice t x lo hi mx=>vv P o fr (P.underlying t) (ev fr x) (ip fr lo) (ip fr hi) (ip fr mx)
 | .fieldAddr s x f=>gE P (P.underlying s) (ev fr x) f
 | .field t x f=>rB P (P.underlying t) (ev fr x) f
 | .indexAddr t x ix=>dI P (P.underlying t) (ev fr x) (bY (ev fr ix))
 | .index t x ix=>iq P (P.underlying t) (ev fr x) (bY (ev fr ix))
 | .extract x i=>kg (ev fr x) i
 | .lookup t x ix ok=>bE P (P.underlying t) (ev fr x) (ev fr ix) ok h
 | .binOp op t x y _=>EE P op t o fr (ev fr x) (ev fr y)
 | .call c=>nM P o fr h c
 | .build t ps=>rG P (P.underlying t) (P.info? t) (qv fr ps)
 | .convert s d x=>nP P o fr h s d (ev fr x)
 | .typeAssert x _ t ok=>mY P t (ev fr x) ok
 | .unOp _ _ _=>zQ P o fr
 | _=>ξ
abbrev yw:=AO×(Nat->Value)
def xg (n:Nat):Value:=ψ (ω ⟨n,0,ξ⟩)
def mH (l K n:Nat):Value:=η (ω ⟨n,0,ξ⟩) l K
def fF (z:Value) (size:Nat):Bool:=Nat.beq z.cells.toList.length size && aU (λv=>pl v && flat v) z.cells.toList
def dJ (n:Nat) (z:List Value):List Value:=Nat.rec (motive:=λ_=>List Value) [] (λ_ ih=>z ++ ih) n
def rH (t:TypeId):Option TypeInfo->Option yw
 | some i=>match i.zero with
  | some z=>cond (fF z i.size) (ω (.cells z.cells.toList t false,xg)) ξ
  | none=>ξ
 | none=>ξ
def C5 (t:TypeId) (x:Value):Option yw:=cond (aU flat x.cells.toList) (ω (.cells x.cells.toList t false,xg)) ξ
def qw (e:TypeId) (len:Nat):Option Value->Option yw
 | some (.agg c)=>cond (aU flat c.toList) (ω (.cells c.toList e false,mH len (cx len))) ξ
 | _=>ξ
def fu (P:Program) (d:Option TypeDesc) (len:Nat) (ps:List (Nat×Value)):Option yw:=
 match d with
 | some (.slice e)=>match P.info? e with
  | some i=>match i.zero with
   | some z=>cond (Nat.blt (len*i.size) 4000 && fF z i.size)
    (qw e len (tA (λk=>ω (k*i.size,i.size)) ps (dJ len z.cells.toList))) ξ
   | none=>ξ
  | none=>ξ
 | _=>ξ
def C6 (d:Option TypeDesc) (r:Option Value):Option yw:=
 match d,r with
 | some (.map _ _),ξ=>ω (.map [] 0,λn=>.map (ω n))
 | some (.map _ _),ω x=>match bY x with
  | some _=>ω (.map [] 0,λn=>.map (ω n))
  | none=>ξ
 | _,_=>ξ
def xh (e:TypeId) (l c:Nat):Option TypeInfo->Option yw
 | some i=>match i.zero with
  | some z=>cond (Nat.ble l c && Nat.blt c 1000000 && Nat.blt i.bytes 10000 && fF z i.size)
    (ω (.cells (dJ c z.cells.toList) e false,mH l (cx c))) ξ
  | none=>ξ
 | none=>ξ
def eP (P:Program) (d:Option TypeDesc) (l c:Option Nat):Option yw:=
 match d,l,c with
 | some (.slice e),ω l,ω c=>xh e l c (P.info? e)
 | _,_,_=>ξ
def rI (P:Program) (s d:Option TypeDesc) (x:Value):Option yw:=
 match s,d,x with
 | some .string,ω (.slice e),.string b=>match P.underlying e,P.info? e with
  | some (.int .u8),ω i=>cond (Nat.beq i.size 1) (ω (.cells (b.data.toList.map λb=>.int .u8 b.toNat) e false,mH b.size (cl b.size))) ξ
  | _,_=>ξ
 | _,_,_=>ξ
def rJ (d:Option TypeDesc) (x:Value):Option yw:=
 match d,x with
 | some .string,.string s=>ω (.iter s 0,xg)
 | _,_=>ξ
def yx (P:Program) (o:Oper) (fr:Fr):Option yw:=
 match o.op with
 | .alloc t=>rH t (P.info? t)
 | .box t x=>C5 t (ev fr x)
 | .buildSlice t len ps=>fu P (P.underlying t) len (qv fr ps)
 | .makeMap t r=>C6 (P.underlying t) (r.map (ev fr))
 | .makeSlice t l c=>eP P (P.underlying t) (bY (ev fr l)) (bY (ev fr c))
 | .convert s d x=>rI P (P.underlying s) (P.underlying d) (ev fr x)
 | .range t x=>rJ (P.underlying t) (ev fr x)
 | _=>ξ
def da (h:AH) (a:Addr) (vs:List Value):Option AH:=
 match a.spot,h.get a.block with
 | none,ω (.cells c e false)=>cond (aU flat vs) (match ii c a.off vs with
   | some c'=>ω (h.put a.block (.cells c' e false))
   | none=>ξ) ξ
 | _,_=>ξ
def nQ (k v:Value):List (Value×Value×Nat)->Nat->List (Value×Value×Nat)
 | [],_=>[]
 | (_,_,b) :: r,0=>(k,v,b) :: r
 | e :: r,i+1=>e :: nQ k v r i
def mZ (k:Value):Option (Value×Value×Nat)->Bool
 | some e=>Instr.sameBits 10000 e.1 k
 | none=>false
abbrev VH:=Value×AH
def nR (h:AH) (size:Nat) (base:Option Addr) (sl K n:Nat) (new:List Value):Option VH:=
 match base with
 | none=>cond (Nat.beq sl 0 && Nat.beq n 0 && Nat.beq K 0) (ω (η ξ 0 0,h)) ξ
 | some a=>match a.spot with
  | none=>cond (Nat.beq n 0) (ω (.slice base sl K,h)) (match da h (a.add (sl*size)) new with
   | some h'=>ω (.slice base (sl+n) K,h')
   | none=>ξ)
  | some _=>ξ
def fG (h:AH) (e:TypeId) (size:Nat) (base:Option Addr) (sl K n:Nat) (new:List Value):Option VH:=
 match base with
 | none=>cond (Nat.beq sl 0 && Nat.beq K 0) (ω (mH n (cl n) h.next,h.new (.cells new e false))) ξ
 | some a=>match a.spot,aY h a.block with
  | none,ω (c,e0,f)=>match nF c a.off (sl*size) with
   | some old=>cond (Nat.beq (K % 2) 0)
     (ω (mH (sl+n) (cl (sl+n)) h.next,h.new (.cells (old ++ new) e false)))
     (cond (Nat.beq a.off 0 && !f && Nat.beq e0 e) (ω (mH (sl+n) (cl (sl+n)) h.next,(h.del a.block).new (.cells (old ++ new) e false))) ξ)
   | none=>ξ
  | _,_=>ξ
def fU (i:TypeInfo):Bool:=
 match i.zero with
 | some z=>Nat.beq z.cells.toList.length i.size
 | none=>false
def yy (h:AH) (e:TypeId) (i:TypeInfo) (base:Option Addr) (sl K n:Nat) (new:List Value):Option VH:=
 cond (aU flat new && Nat.blt ((sl+n)*i.bytes) 70000000000000 && Nat.blt (sl+n) 70000000000000 && !(Nat.beq i.size 0) && Nat.beq new.length (n*i.size) && Nat.blt i.bytes 1000000 && fU i)
  (cond (Nat.ble (sl+n) (K / 2)) (nR h i.size base sl K n new) (fG h e i.size base sl K n new)) ξ
def nd (i:TypeInfo) (e:TypeId) (h:AH) (s:Value) (src:Option (Nat×List Value)):Option VH:=
 match s,src with
 | .slice base sl K,ω (n,new)=>yy h e i base sl K n new
 | _,_=>ξ
def nT (h:AH) (size:Nat) (x:Value):Option (Nat×List Value):=
 match Ae x with
 | some n=>match fp h size n x with
  | some l=>ω (n,l)
  | none=>ξ
 | none=>ξ
def nf (i:TypeInfo) (n:Option Nat):Option (Nat×List Value):=
 match i.zero,n with
 | some z,ω n=>cond (Nat.blt n 70000000000000 && fF z i.size) (ω (n,dJ n z.cells.toList)) ξ
 | _,_=>ξ
def nU:Option TypeDesc->Bool
 | some (.int _)=>true
 | _=>false
def ai (P:Program) (h:AH) (d d2:Option TypeDesc) (s x:Value):Option VH:=
 match d,d2 with
 | some (.slice e),ω t=>match P.info? e with
  | some i=>nd i e h s (cond (nU (ω t)) (nf i (bY x)) (nT h i.size x))
  | none=>ξ
 | _,_=>ξ
def ir (P:Program) (h:AH) (d:Option TypeDesc) (x:Value):Option VH:=
 match d,x with
 | some (.slice e),.slice (ω a) n _=>match P.info? e with
  | some i=>match i.zero with
   | some z=>cond (fF z i.size) (cond (Nat.beq n 0) (ω (.tuple #[],h)) (match da h a (dJ n z.cells.toList) with
     | some h'=>ω (.tuple #[],h')
     | none=>ξ)) ξ
   | none=>ξ
  | none=>ξ
 | _,_=>ξ
def vC (h:AH) (base:Option Addr) (l:List Value):Option AH:=
 match base with
 | none=>cond (Nat.beq l.length 0) (ω h) ξ
 | some a=>cond (Nat.beq l.length 0) (ω h) (da h a l)
def jp (P:Program) (h:AH) (d:Option TypeDesc) (x s:Value):Option VH:=
 match d,x,Ae s with
 | some (.slice e),.slice base dl _,ω sl=>match P.info? e with
  | some i=>match fp h i.size (cond (Nat.ble sl dl) sl dl) s with
   | some l=>match vC h base l with
    | some h'=>ω (.int .i64 (cond (Nat.ble sl dl) sl dl:Nat),h')
    | none=>ξ
   | none=>ξ
  | none=>ξ
 | _,_,_=>ξ
def yz (P:Program) (c:Call):Option TypeDesc:=
 match c.argTypes.toList with
 | _ :: t :: _=>P.underlying t
 | _=>ξ
def xi (c:Call) (fr:Fr):Option (Value×Value):=
 match c.args.toList with
 | [x,y]=>ω (ev fr x,ev fr y)
 | _=>ξ
def lB (h:AH) (i:Option TypeInfo) (x v:Value):Option VH:=
 match i,x with
 | some i,ψ (ω a)=>cond (Nat.beq v.cells.toList.length i.size) (match da h a v.cells.toList with
   | some h'=>ω (undef,h')
   | none=>ξ) ξ
 | _,_=>ξ
def Aj (h:AH) (r:Nat) (es:List (Value×Value×Nat)) (clock:Nat) (k v:Value):Option (Option (Nat×Value))->Option VH
 | some (ω (i,_))=>cond (mZ k es[i]?) (ω (undef,h.put r (.map (nQ k v es i) clock))) ξ
 | some ξ=>ω (undef,h.put r (.map (es ++ [(k,v,clock)]) (clock+1)))
 | none=>ξ
def fV (P:Program) (h:AH) (d:Option TypeDesc) (m k v:Value):Option VH:=
 match d,m with
 | some (.map kt _),.map (ω r)=>match h.get r with
  | some (.map es clock)=>cond (pl k && ki P kt false k) (Aj h r es clock k v (fT P kt k es 0)) ξ
  | _=>ξ
 | _,_=>ξ
def xj (P:Program) (h:AH) (s d:TypeId) (x:Value):Option VH:=
 match P.underlying s,P.underlying d,x with
 | some (.slice _),ω (.slice e),.slice (ω a) n K=>match P.underlying e,a.spot,aY h a.block with
  | some (.int .u8),ξ,ω (_,_,false)=>cond (Nat.beq s d) (ω (x,h)) ξ
  | _,_,_=>ξ
 | _,_,_=>ξ
def Ef (P:Program) (fr:Fr) (h:AH) (c:Call):Option VH:=
 match c.callee with
 | .builtin .append=>match xi c fr with
  | some (s,x)=>ai P h (fg P c) (yz P c) s x
  | none=>ξ
 | .builtin .clear=>match vB c fr with
  | some x=>ir P h (fg P c) x
  | none=>ξ
 | .builtin .copy=>match xi c fr with
  | some (x,s)=>jp P h (fg P c) x s
  | none=>ξ
 | _=>ξ
def tB (P:Program) (o:Oper) (fr:Fr) (h:AH):Option VH:=
 match o.op with
 | .assign x=>ω (ev fr x,h)
 | .store t x v=>lB h (P.info? t) (ev fr x) (ev fr v)
 | .mapUpdate t m k v=>fV P h (P.underlying t) (ev fr m) (ev fr k) (ev fr v)
 | .insert t m k v=>fV P h (P.underlying t) (ev fr m) (ev fr k) (ev fr v)
 | .convert s d x=>xj P h s d (ev fr x)
 | .call c=>Ef P fr h c
 | _=>ξ
def fH (P:Program) (g:FuncId):Bool:=
 match P.funcs[g]? with
 | some fn=>fn.body.isSome && !(fn.name == "runtime.NumGoroutine")
 | none=>false
def xk (P:Program) (fr:Fr) (c:Call):Value->Option (FuncId×List Value)
 | .func (.func g) a b=>cond (fH P g) (ω (g,a.toList ++ c.args.toList.map (ev fr) ++ b.toList)) ξ
 | _=>ξ
def callee (P:Program) (o:Oper) (fr:Fr):Option (FuncId×List Value):=
 match o.op with
 | .call c=>match c.callee with
  | .value f=>xk P fr c (ev fr f)
  | _=>ξ
 | _=>ξ
inductive lx where
 | normal
 | exit (id:Nat)
 | ret
def Hj (b:Bool):Option Value->Bool
 | some (.bool c)=>c == b
 | _=>false
def dm (ops:Array Oper) (fr:Fr) (o:Oper):Bool:=
 match o.guard with
 | none=>true
 | some (j,b)=>match ops[j]? with
  | some g=>match g.dst with
   | some d=>Hj b (fr.get d)
   | none=>false
  | none=>false
def dp (fr:Fr) (d:Option Tmp) (v:Value):Fr:=
 match d with
 | some d=>fr.put d v
 | none=>fr
inductive F8 where
 | val | lay | loud
def aJ (P:Program) (o:Oper):F8:=
 match o.op with
 | .alloc _ | .box _ _ | .buildSlice _ _ _ | .makeMap _ _ | .makeSlice _ _ _ | .range _ _=>.lay
 | .convert s d _=>match P.underlying s,P.underlying d with
  | some .string,ω (.slice _)=>.lay
  | some (.slice _),ω (.slice _)=>.loud
  | _,_=>.val
 | .assign _ | .store _ _ _ | .mapUpdate _ _ _ _ | .insert _ _ _ _=>.loud
 | .call c=>match c.callee with
  | .builtin .append | .builtin .copy | .builtin .clear | .value _=>.loud
  | .builtin _=>.val
  | _=>.loud
 | _=>.val
def cd (P:Program) (o:Oper):Bool:=
 match aJ P o with
 | .loud=>true
 | _=>false
def Eg (P:Program) (o:Oper):Bool:=
 match aJ P o with
 | .val=>true
 | _=>false
abbrev mI:=FuncId->List Value->AH->Option VH
abbrev FH:=Fr×AH
def Ak (fr:Fr) (h:AH) (d:Option Tmp):Option Value->Option FH
 | some v=>ω (dp fr d v,h)
 | none=>ξ
def C7 (fr:Fr) (h:AH) (d:Option Tmp):Option yw->Option FH
 | some (b,f)=>ω (dp fr d (f h.next),h.new b)
 | none=>ξ
def xl (fr:Fr) (d:Option Tmp):Option VH->Option FH
 | some (v,h)=>ω (dp fr d v,h)
 | none=>ξ
def tC (P:Program) (call:mI) (o:Oper) (fr:Fr) (h:AH):Option (FuncId×List Value)->Option FH
 | some (g,args)=>xl fr o.dst (call g args h)
 | none=>Ak fr h o.dst (zQ P o fr)
def mg (P:Program) (call:mI) (o:Oper) (fr:Fr) (h:AH):Option VH->Option FH
 | some (v,h')=>ω (dp fr o.dst v,h')
 | none=>tC P call o fr h (callee P o fr)
def Hk (P:Program) (call:mI) (o:Oper) (fr:Fr) (h:AH):F8->Option FH
 | .val=>Ak fr h o.dst (pK P o fr h)
 | .lay=>C7 fr h o.dst (yx P o fr)
 | .loud=>mg P call o fr h (tB P o fr h)
def eH:Operand->Bool
 | .const v=>pl v
 | .global _=>false
 | _=>true
def bT (o:Oper):Bool:=aU eH o.op.operands.toList
def jq (o:Oper):Bool:=
 match o.op with
 | .select _ _=>false
 | _=>true
def jy (P:Program) (call:mI) (ops:Array Oper) (o:Oper) (fr:Fr) (h:AH):Option FH:=
 cond (dm ops fr o) (cond (bT o) (Hk P call o fr h (aJ P o)) ξ) (ω (dp fr o.dst undef,h))
def iR (k:Fr->AH->Option FH):Option FH->Option FH
 | some (fr,h)=>k fr h
 | none=>ξ
def eQ (P:Program) (call:mI) (ops:Array Oper) (l:List Oper):Fr->AH->Option FH:=
 List.rec (motive:=λ_=>Fr->AH->Option FH) (λfr h=>ω (fr,h)) (λo _ ih fr h=>iR ih (jy P call ops o fr h)) l
def bU (o:Oper):List Nat:=(o.after.toList.filter λe=>Region.binds .any e).map (·.on)
def mem (x:Nat) (l:List Nat):Bool:=List.rec (motive:=λ_=>Bool) false (λy _ ih=>cond (Nat.beq x y) true ih) l
def CT (ops:Array Oper):Nat->Nat->List Nat
 | 0,_=>[]
 | f+1,j=>match ops[j]? with
  | some o=>(bU o) ++ (bU o).flatMap (CT ops f)
  | none=>[]
def ready (ops:Array Oper) (taken:List Nat) (j:Nat):Bool:=
 match ops[j]? with
 | some o=>aU (λx=>mem x taken) (bU o)
 | none=>false
def rK (P:Program) (ops:Array Oper) (taken:List Nat) (j:Nat):Bool:=
 cond (ready ops taken j) (match ops[j]? with | some o=>!cd P o | none=>false) false
def qz (P:Program) (ops:Array Oper) (x:Nat):Bool:=
 match ops[x]? with
 | some o=>Eg P o
 | none=>false
def dq (j:Nat) (l:List Nat):List Nat:=l.filter λx=>!(Nat.beq x j)
def plan (P:Program) (ops:Array Oper):Nat->List Nat->List Nat->Option (List (Nat×List Nat))
 | _,_,[]=>ω []
 | 0,_,_ :: _=>ξ
 | f+1,taken,rest=>
  match rest.find? (rK P ops taken) with
  | some j=>(plan P ops f (j :: taken) (dq j rest)).map ((j,[]) :: ·)
  | none=>match rest.filter (ready ops taken) with
   | [j]=>(plan P ops f (j :: taken) (dq j rest)).map
     ((j,taken.filter λx=>!(mem x (CT ops 12 j)) && qz P ops x) :: ·)
   | _=>ξ
def Am (o:Oper) (x:Oper) (ops:Array Oper):Bool:=
 match o.dst with
 | some d=>!(x.looksAt ops).contains d && x.dst != ω d
 | none=>true
def tD (P:Program) (ops:Array Oper) (j:Nat) (o:Oper) (i:Nat):Bool:=
 match ops[i]? with
 | some x=>cd P x || x.apart ops o || (mem i (bU o) && (cd P o || Am o x ops))
 | none=>false
def jz (P:Program) (ops:Array Oper) (before:List Nat) (j:Nat):Bool:=
 match ops[j]? with
 | some o=>before.all (tD P ops j o) && (cd P o || match o.dst with | some d=>!(o.looksAt ops).contains d | none=>true)
 | none=>false
def lone (P:Program) (ops:Array Oper):List Nat->List Nat->Bool
 | _,[]=>true
 | before,j :: l=>jz P ops before j && lone P ops (j :: before) l
def looks (P:Program):Op->Bool
 | .load _ _ | .lookup _ _ _ _=>true
 | .convert s d _=>match P.underlying s,P.underlying d with
  | some (.slice _),ω .string=>true
  | _,_=>false
 | .call c=>match c.callee with
  | .builtin .len=>gF (fg P c)
  | _=>false
 | _=>false
def jr:Op->Bool
 | .assign _=>true
 | _=>false
def An (fr:Fr) (d:Option Tmp):Option Value->Bool
 | some v=>match d with
  | some d=>match fr.get d with
   | some u=>CQ 6 u v
   | none=>false
  | none=>true
 | none=>false
def cJ (P:Program) (ops:Array Oper) (fr:Fr) (h:AH) (j:Nat):Bool:=
 match ops[j]? with
 | some o=>cond (looks P o.op) (cond (dm ops fr o) (An fr o.dst (pK P o fr h)) true) true
 | none=>false
def zR (ops:Array Oper) (fr:Fr) (o:Oper) (again:List Nat):List Nat:=cond (dm ops fr o && !(jr o.op)) again []
def yA (P:Program) (ops:Array Oper) (again:List Nat) (k:Fr->AH->Option FH):Option FH->Option FH
 | some (fr,h)=>cond (aU (cJ P ops fr h) again) (k fr h) ξ
 | none=>ξ
def c8 (P:Program) (call:mI) (ops:Array Oper) (j:Nat) (again:List Nat) (k:Fr->AH->Option FH) (fr:Fr) (h:AH):Option FH:=
 match ops[j]? with
 | some o=>yA P ops (zR ops fr o again) k (jy P call ops o fr h)
 | none=>ξ
def drawn (P:Program) (call:mI) (ops:Array Oper) (l:List (Nat×List Nat)):Fr->AH->Option FH:=
 List.rec (motive:=λ_=>Fr->AH->Option FH) (λfr h=>ω (fr,h)) (λp _ ih fr h=>c8 P call ops p.1 p.2 ih fr h) l
def fI (P:Program) (ops:Array Oper):Option (List (Nat×List Nat)):=
 match plan P ops ops.size [] (List.range ops.size) with
 | some l=>cond (lone P ops [] (l.map (·.1))) (ω l) ξ
 | none=>ξ
def C8 (P:Program) (t:TypeId) (h:AH) (x:Value) (more:Option (List Value)):Option (List Value):=
 match ia P t x h,more with
 | some v,ω vs=>ω (v :: vs)
 | _,_=>ξ
def jA (P:Program) (fr:Fr) (h:AH):List ResultVar->Option (List Value)
 | []=>ω []
 | .tmp t :: l=>(jA P fr h l).map (cH (fr.get t) :: ·)
 | .cell a t :: l=>C8 P t h (cH (fr.get a)) (jA P fr h l)
def one:List Value->Value
 | [v]=>v
 | vs=>.tuple vs.toArray
def frame:Nat->List Value->Tr Value->Tr Value
 | _,[],t=>t
 | i,v :: l,t=>frame (i+1) l (t.set i (ω v))
abbrev R:=Option (lx×Fr×AH)
def nV (h:AH):Option (List Value)->Option VH
 | some vs=>ω (one vs,h)
 | none=>ξ
def tE (P:Program) (fn:Func):R->Option VH
 | some (.normal,fr,h)=>nV h (jA P fr h fn.results.toList)
 | some (.ret,fr,h)=>nV h (jA P fr h fn.results.toList)
 | _=>ξ
def xm (P:Program) (rc:Code->Fr->AH->R) (fn:Func) (args:List Value) (h:AH):Option VH:=
 match fn.body with
 | some c=>cond (Nat.ble args.length fn.ntmps) (tE P fn (rc c ⟨fn.ntmps,frame 0 args .nil⟩ h)) ξ
 | none=>ξ
def calls (P:Program) (rc:Code->Fr->AH->R) (f:FuncId) (args:List Value) (h:AH):Option VH:=
 match P.funcs[f]? with
 | some fn=>xm P rc fn args h
 | none=>ξ
def EF:Option FH->R
 | some (fr,h)=>ω (.normal,fr,h)
 | none=>ξ
def F9 (P:Program) (rc:Code->Fr->AH->R) (ops:Array Oper) (fr:Fr) (h:AH):Bool->R
 | true=>match fI P ops with
  | some l=>EF (drawn P (calls P rc) ops l fr h)
  | none=>ξ
 | false=>EF (eQ P (calls P rc) ops ops.toList fr h)
def ij (k:Fr->AH->R):R->R
 | some (.normal,fr,h)=>k fr h
 | r=>r
def it (id:Nat):R->R
 | some (.exit i,fr,h)=>cond (Nat.beq i id) (ω (.normal,fr,h)) (ω (.exit i,fr,h))
 | r=>r
def nW (a b:Unit->R):Value->R
 | .bool true=>a ()
 | .bool false=>b ()
 | _=>ξ
def Ao (P:Program) (rc:Code->Fr->AH->R) (c:Code) (fr:Fr) (h:AH):R:=
 match c with
 | .skip=>ω (.normal,fr,h)
 | .label _=>ω (.normal,fr,h)
 | .region _ ops d=>F9 P rc ops fr h d
 | .seq a b=>ij (rc b) (rc a fr h)
 | .cond x a b=>cond (eH x) (nW (λ_=>rc a fr h) (λ_=>rc b fr h) (ev fr x)) ξ
 | .block id b=>it id (rc b fr h)
 | .loop b=>ij (rc (.loop b)) (rc b fr h)
 | .exit id=>ω (.exit id,fr,h)
 | .scope b=>rc b fr h
 | .ret=>ω (.ret,fr,h)
 | _=>ξ
def code (P:Program) (n:Nat):Code->Fr->AH->R:=
 Nat.rec (motive:=λ_=>Code->Fr->AH->R) (λ_ _ _=>ξ) (λ_ ih c fr h=>Ao P ih c fr h) n
end
end Eva
end
section
open Go Go.RowKit
namespace Eva
theorem Tr.get_nil {α:Type}(k:Nat):(Tr.nil:Tr α).get k=none:=rfl
theorem Tr.get_zero {α:Type}(l r:Tr α) (v:Option α):(Tr.node l v r).get 0=v:=rfl
theorem Tr.get_succ {α:Type}(l r:Tr α) (v:Option α) (k:Nat):(Tr.node l v r).get (k+1)=cond (Nat.beq (k % 2) 0) (l.get (k / 2)) (r.get (k / 2)):=rfl
theorem Tr.setF_succ {α:Type}(x:Option α) (f:Nat) (t:Tr α) (k:Nat):Tr.setF x (f+1) t k=pO x (Tr.setF x f) t k:=rfl
theorem Tr.get_setF_same {α:Type}{x:Option α}:∀(f:Nat) (t:Tr α) (k:Nat),k<f->(Tr.setF x f t k).get k=x:=by
 intro f
 induction f with
 | zero=>intro t k h;omega
 | succ f ih=>
  intro t k h;rw[Tr.setF_succ];cases t with
  | nil=>
   cases k with
   | zero=>rfl
   | succ k=>
    have h2:=ih .nil (k / 2) U;cases hb:Nat.beq (k % 2) 0 <;>simp only[pO,Ab,hb,cond_true,cond_false,Tr.get_succ] <;>exact h2
  | node l v r=>
   cases k with
   | zero=>rfl
   | succ k=>
    have h2:=ih l (k / 2) U;have h3:=ih r (k / 2) U;cases hb:Nat.beq (k % 2) 0 <;>simp only[pO,Ad,hb,cond_true,cond_false,Tr.get_succ] <;>assumption
theorem Tr.get_setF_ne {α:Type}{x:Option α}:∀(f:Nat) (t:Tr α) (k j:Nat),k≠j->(Tr.setF x f t k).get j=t.get j:=by
 intro f
 induction f with
 | zero=>intro t k j h;rfl
 | succ f ih=>
  intro t k j h;rw[Tr.setF_succ];cases t with
  | nil=>
   cases k with
   | zero=>
    cases j with
    | zero=>exact absurd rfl h
    | succ j=>cases hb:Nat.beq (j % 2) 0 <;>simp[pO,Ab,Tr.get_succ,Tr.get_nil,hb]
   | succ k=>
    cases j with
    | zero=>cases hb:Nat.beq (k % 2) 0 <;>simp[pO,Ab,Tr.get_zero,Tr.get_nil,hb]
    | succ j=>
     have h2:k / 2≠j / 2\/k % 2≠j % 2:=U;cases hb:Nat.beq (k % 2) 0 <;>cases hc:Nat.beq (j % 2) 0 <;>simp only[pO,Ab,hb,hc,cond_true,cond_false,Tr.get_succ,Tr.get_nil]
     .have e1:=Nat.ne_of_beq_eq_false hb;have e2:=Nat.ne_of_beq_eq_false hc;rw[ih _ _ _ U];rfl
     .have e1:=Nat.eq_of_beq_eq_true hb;have e2:=Nat.eq_of_beq_eq_true hc;rw[ih _ _ _ U];rfl
  | node l v r=>
   cases k with
   | zero=>
    cases j with
    | zero=>exact absurd rfl h
    | succ j=>cases hb:Nat.beq (j % 2) 0 <;>simp[pO,Ad,Tr.get_succ,hb]
   | succ k=>
    cases j with
    | zero=>cases hb:Nat.beq (k % 2) 0 <;>simp[pO,Ad,Tr.get_zero,hb]
    | succ j=>
     have h2:k / 2≠j / 2\/k % 2≠j % 2:=U;cases hb:Nat.beq (k % 2) 0 <;>cases hc:Nat.beq (j % 2) 0 <;>simp only[pO,Ad,hb,hc,cond_true,cond_false,Tr.get_succ]
     .have e1:=Nat.ne_of_beq_eq_false hb;have e2:=Nat.ne_of_beq_eq_false hc;rw[ih _ _ _ U]
     .have e1:=Nat.eq_of_beq_eq_true hb;have e2:=Nat.eq_of_beq_eq_true hc;rw[ih _ _ _ U]
theorem Tr.get_set {α:Type}(t:Tr α) (k:Nat) (x:Option α):(t.set k x).get k=x:=Tr.get_setF_same _ _ _ (Nat.lt_succ_self k)
theorem Tr.get_set_ne {α:Type}(t:Tr α){k j:Nat}(x:Option α) (h:k≠j):(t.set k x).get j=t.get j:=Tr.get_setF_ne _ _ _ _ h
structure aM where
 b:Nat->Option Nat
 e:Nat->Nat
instance:CoeFun aM (λ_=>Nat->Option Nat):=⟨aM.b⟩
def CR (K c:Nat):Prop:=(K % 2=0->c=K / 2)/\(K % 2=1->K / 2<=c)
theorem CR.cx (c:Nat):CR (cx c) c:=⟨λ_=>by unfold Eva.cx;omega,λh=>by unfold Eva.cx at h;omega⟩
theorem CR.cl {c d:Nat}(h:c<=d):CR (cl c) d:=⟨λh=>by unfold Eva.cl at h;omega,λ_=>by unfold Eva.cl;omega⟩
theorem CR.le {K c:Nat}(h:CR K c):K / 2<=c:=by
 rcases Nat.mod_two_eq_zero_or_one K with e | e
 .rw[h.1 e];omega
 .exact h.2 e
inductive VR (σ:aM):Value->Value->Prop
 | bool (b:Bool):VR σ (.bool b) (.bool b)
 | int (k:IntKind) (n:Int):VR σ (.int k n) (.int k n)
 | float (k:FloatKind) (n:Nat):VR σ (.float k n) (.float k n)
 | complex (k:FloatKind) (a b:Nat):VR σ (.complex k a b) (.complex k a b)
 | string (s:ByteArray):VR σ (.string s) (.string s)
 | ptr0:VR σ (ψ ξ) (ψ ξ)
 | ptr {n b o:Nat}:σ n=ω b->VR σ (ψ (ω ⟨n,o,ξ⟩)) (ψ (ω ⟨b,o,ξ⟩))
 | sl0:VR σ (η ξ 0 0) (η ξ 0 0)
 | sl {n b o len K c:Nat}:σ n=ω b->CR K c->(K % 2=1->o=0->c<=σ.e b)->VR σ (η (ω ⟨n,o,ξ⟩) len K) (η (ω ⟨b,o,ξ⟩) len c)
 | far {a:Addr}{c:Nat}:VR σ eG (.slice (ω a) 0 c)
 | map0:VR σ (.map ξ) (.map ξ)
 | map {n b:Nat}:σ n=ω b->VR σ (.map (ω n)) (.map (ω b))
 | chan0:VR σ (.chan ξ) (.chan ξ)
 | any (v:Value):ED v=true->VR σ pQ v
 | func (fn:Fn){f f' c c':Array Value}:f.size=f'.size->(∀(i:Nat) v v',f[i]? = ω v->f'[i]? = ω v'->VR σ v v')->
   c.size=c'.size->(∀(i:Nat) v v',c[i]? = ω v->c'[i]? = ω v'->VR σ v v')->VR σ (.func fn f c) (.func fn f' c')
 | nilFunc:VR σ .nilFunc .nilFunc
 | iface (t:TypeId){v v':Value}:VR σ v v'->VR σ (.iface t v) (.iface t v')
 | nilIface:VR σ .nilIface .nilIface
 | agg {c c':Array Value}:c.size=c'.size->(∀(i:Nat) v v',c[i]? = ω v->c'[i]? = ω v'->VR σ v v')->VR σ (.agg c) (.agg c')
 | tuple {c c':Array Value}:c.size=c'.size->(∀(i:Nat) v v',c[i]? = ω v->c'[i]? = ω v'->VR σ v v')->VR σ (.tuple c) (.tuple c')
def aM.le (σ σ':aM):Prop:=∀n b,σ n=ω b->σ' n=ω b/\σ'.e b=σ.e b
theorem VR.mono {σ σ':aM}(h:aM.le σ σ'){v v':Value}(hv:VR σ v v'):VR σ' v v':=by
 induction hv with
 | bool b=>exact .bool b
 | int k n=>exact .int k n
 | float k n=>exact .float k n
 | complex k a b=>exact .complex k a b
 | string s=>exact .string s
 | ptr0=>exact .ptr0
 | ptr e=>exact .ptr (h _ _ e).1
 | sl0=>exact .sl0
 | sl e k q=>exact .sl (h _ _ e).1 k (by rw[(h _ _ e).2];exact q)
 | far=>exact .far
 | map0=>exact .map0
 | map e=>exact .map (h _ _ e).1
 | chan0=>exact .chan0
 | any v hv=>exact .any v hv
 | func fn a _ b _ ih1 ih2=>exact .func fn a ih1 b ih2
 | nilFunc=>exact .nilFunc
 | iface t _ ih=>exact .iface t ih
 | nilIface=>exact .nilIface
 | agg a _ ih=>exact .agg a ih
 | tuple a _ ih=>exact .tuple a ih
def bz (σ:aM) (l l':List Value):Prop:=l.length=l'.length/\∀(i:Nat) v v',l[i]? = ω v->l'[i]? = ω v'->VR σ v v'
theorem bz.nil (σ:aM):bz σ [] []:=⟨rfl,λi v v' h=>by simp at h⟩
theorem bz.cons {σ:aM}{v v':Value}{l l':List Value}(h:VR σ v v') (hl:bz σ l l'):bz σ (v :: l) (v' :: l'):=by
 refine⟨by simp[hl.1],λi u u' hu hu'=>?_⟩;cases i with
 | zero=>simp at hu hu';subst hu;subst hu';exact h
 | succ i=>simp at hu hu';exact hl.2 i u u' hu hu'
theorem bz.mono {σ σ':aM}(h:aM.le σ σ'){l l':List Value}(hl:bz σ l l'):bz σ' l l':=⟨hl.1,λi v v' a b=>(hl.2 i v v' a b).mono h⟩
theorem bz.append {σ:aM}{l l' m m':List Value}(hl:bz σ l l') (hm:bz σ m m'):bz σ (l ++ m) (l' ++ m'):=by
 refine⟨by simp[hl.1,hm.1],λi u u' hu hu'=>?_⟩;rcases Nat.lt_or_ge i l.length with hlt | hge
 .rw[List.getElem?_append_left hlt]at hu;rw[List.getElem?_append_left (by rw[<-hl.1];exact hlt)]at hu';exact hl.2 i u u' hu hu'
 .rw[List.getElem?_append_right hge]at hu;rw[List.getElem?_append_right (by rw[<-hl.1];exact hge),<-hl.1]at hu';exact hm.2 _ u u' hu hu'
theorem bz.drop {σ:aM}{l l':List Value}(hl:bz σ l l') (n:Nat):bz σ (l.drop n) (l'.drop n):=
 ⟨by simp[hl.1],λi u u' hu hu'=>hl.2 (n+i) u u' (by rw[List.getElem?_drop]at hu;exact hu) (by rw[List.getElem?_drop]at hu';exact hu')⟩
theorem bz.take {σ:aM}{l l':List Value}(hl:bz σ l l') (n:Nat):bz σ (l.take n) (l'.take n):=by
 refine⟨by simp[hl.1],λi u u' hu hu'=>?_⟩;rw[List.getElem?_take]at hu hu';by_cases h:i<n
 .simp[h]at hu hu';exact hl.2 i u u' hu hu'
 .simp[h]at hu
theorem bz.get {σ:aM}{l l':List Value}(hl:bz σ l l'){i:Nat}{v:Value}(h:l[i]? = ω v):∃v',l'[i]? = ω v'/\VR σ v v':=by
 have hi:i<l'.length:=by rw[<-hl.1];exact(List.getElem?_eq_some_iff.1 h).1
 exact⟨l'[i],List.getElem?_eq_getElem hi,hl.2 i v _ h (List.getElem?_eq_getElem hi)⟩
theorem bz.of_map {σ:aM}{α:Type}(l:List α) (f g:α->Value) (h:∀x∈l,VR σ (f x) (g x)):bz σ (l.map f) (l.map g):=by
 induction l with
 | nil=>exact bz.nil σ
 | cons x l ih=>exact bz.cons (h x (by simp)) (ih λy hy=>h y (by simp[hy]))
theorem VR.agg' {σ:aM}{l l':List Value}(h:bz σ l l'):VR σ (.agg l.toArray) (.agg l'.toArray):=
 .agg (by simp[h.1]) (λi v v' a b=>h.2 i v v' (by simpa using a) (by simpa using b))
theorem VR.tuple' {σ:aM}{l l':List Value}(h:bz σ l l'):VR σ (.tuple l.toArray) (.tuple l'.toArray):=
 .tuple (by simp[h.1]) (λi v v' a b=>h.2 i v v' (by simpa using a) (by simpa using b))
theorem VR.cells {σ:aM}{v v':Value}(h:VR σ v v') (hJ:Ee v=true):bz σ v.cells.toList v'.cells.toList:=by
 cases h with
 | agg a b=>exact⟨by simpa[Value.cells]using a,λi u u' hu hu'=>b i u u' (by simpa[Value.cells]using hu) (by simpa[Value.cells]using hu')⟩
 | any v hv=>exact absurd hJ (by simp[Ee,pQ])
 | _=>exact bz.cons (by constructor <;>assumption) (bz.nil σ)
theorem aW {α:Type}{p:α->Bool}:∀{l:List α},aU p l=true->∀x∈l,p x=true
 | [],_,x,hx=>by cases hx
 | y :: l,h,x,hx=>by
  have h':cond (p y) (aU p l) false=true:=h;cases hp:p y with
  | false=>rw[hp]at h';cases h'
  | true=>
   rw[hp]at h';cases hx with
   | head=>exact hp
   | tail _ hm=>exact aW h' x hm
theorem mh {u:Value}(h:aU flat u.cells.toList=true):Ee u=true:=by
 unfold Ee
 split
 .rename_i c;have:=aW h (.chan (ω c)) (by simp[Value.cells]);simp[flat]at this
 .rfl
theorem dW {a b:Bool}(h:cond a b false=true):a=true/\b=true:=by cases a <;>cases b <;>simp_all
theorem Aq {σ:aM}:∀(n:Nat){v v':Value},plain n v=true->VR σ v v'->v' = v:=by
 intro n
 induction n with
 | zero=>intro v v' h;cases h
 | succ n ih=>
  intro v v' h hv;have h':c9 (plain n) v=true:=h;have rows:∀{c c':Array Value},aU (plain n) c.toList=true->c.size=c'.size->(∀(i:Nat) v v',c[i]? = ω v->c'[i]? = ω v'->VR σ v v')->c' = c:=by
   intro c c' hp hs hx;apply Array.ext hs.symm;intro i h1 h2;have a:c[i]? = ω c[i]:=Array.getElem?_eq_getElem h2;have b:c'[i]? = ω c'[i]:=Array.getElem?_eq_getElem h1;exact ih (aW hp _ (Array.mem_toList_iff.2 (Array.getElem_mem h2))) (hx i _ _ a b)
  cases hv with
  | ptr e=>simp[c9]at h'
  | sl e k q=>simp[c9]at h'
  | far=>simp[c9,eG]at h'
  | map e=>simp[c9]at h'
  | any v hv=>simp[c9,pQ]at h'
  | func fn a b c d=>
   simp only[c9]at h';obtain⟨h1,h2⟩:=dW h';rw[rows h1 a b,rows h2 c d]
  | iface t hw=>simp only[c9]at h';rw[ih h' hw]
  | agg a b=>simp only[c9]at h';rw[rows h' a b]
  | tuple a b=>simp only[c9]at h';rw[rows h' a b]
  | _=>rfl
theorem rL:∀(n:Nat){v:Value},plain n v=true->Ee v=true:=by
 intro n v h;unfold Ee
 split
 .rename_i c;cases n with
  | zero=>cases h
  | succ n=>
   have h':c9 (plain n) (.chan (ω c))=true:=h;simp[c9]at h'
 .rfl
theorem qA {v:Value}(h:pl v=true):Ee v=true:=rL 6 h
theorem vD {σ:aM}:∀(n:Nat){v:Value},plain n v=true->VR σ v v:=by
 intro n
 induction n with
 | zero=>intro v h;cases h
 | succ n ih=>
  intro v h;have h':c9 (plain n) v=true:=h;have rows:∀{c:Array Value},aU (plain n) c.toList=true->∀(i:Nat) v v',c[i]? = ω v->c[i]? = ω v'->VR σ v v':=by
   intro c hp i v v' h1 h2;rw[h1]at h2;cases h2;exact ih (aW hp _ (Array.mem_toList_iff.2 (Array.mem_of_getElem? h1)))
  unfold c9 at h'
  split at h'
  .exact .bool _
  .exact .int _ _
  .exact .float _ _
  .exact .complex _ _ _
  .exact .string _
  .exact .nilFunc
  .exact .nilIface
  .exact .ptr0
  .exact .sl0
  .exact .map0
  .exact .chan0
  .obtain⟨h1,h2⟩:=dW h';exact .func _ rfl (rows h1) rfl (rows h2)
  .exact .iface _ (ih h')
  .exact .agg rfl (rows h')
  .exact .tuple rfl (rows h')
  .exact absurd h' (by simp)
theorem tF {σ:aM}{v v':Value}(h:pl v=true) (hv:VR σ v v'):v' = v:=Aq 6 h hv
theorem dt {σ:aM}{v:Value}(h:pl v=true):VR σ v v:=vD 6 h
inductive OR (P:Program) (σ:aM) (b:Nat):AO->Obj->Prop
 | cells {c:List Value}{c':Array Value}{e:TypeId}{fr:Bool}{f':Nat×Nat} :
   (∀(i:Nat) v,c[i]? = ω v->∃v',c'[i]? = ω v'/\VR σ v v')->
   (fr=false->f'.1=f'.2\/c'.size<=f'.1)->(∀i,P.info? e=ω i->σ.e b*i.size<=c'.size)->OR P σ b (.cells c e fr) (.cells c' e f')
 | map {es:List (Value×Value×Nat)}{es':Array MapEntry}{clock:Nat}:es.length=es'.size->
   (∀(i:Nat) k v b,es[i]? = ω (k,v,b)->∃e',es'[i]? = ω e'/\VR σ k e'.key/\VR σ v e'.val/\e'.born=b)->OR P σ b (.map es clock) (.map es' clock)
 | iter (s:ByteArray) (pos:Nat):OR P σ b (.iter s pos) (.stringIter s pos)
theorem OR.mono {P:Program}{σ σ':aM}{b:Nat}(h:aM.le σ σ') (hb:σ'.e b=σ.e b){o:AO}{o':Obj}(ho:OR P σ b o o'):OR P σ' b o o':=by
 cases ho with
 | cells x y z=>exact .cells (λi v hv=>let ⟨v',p,q⟩:=x i v hv;⟨v',p,q.mono h⟩) y (by rw[hb];exact z)
 | map x y=>exact .map x (λi k v b' hv=>let ⟨e',p,q,r,t⟩:=y i k v b' hv;⟨e',p,q.mono h,r.mono h,t⟩)
 | iter s p=>exact .iter s p
structure HR (P:Program) (σ:aM) (h:AH) (w:World):Prop where
 lt:∀n b,σ n=ω b->n<h.next/\b<w.heap.size
 obj:∀n b o,σ n=ω b->h.get n=ω o->∃o',w.heap[b]? = ω o'/\OR P σ b o o'
 inj:∀n m b o p,σ n=ω b->σ m=ω b->h.get n=ω o->h.get m=ω p->n=m
 none:∀n,h.next<=n->h.get n = .none
structure St (P:Program) (σ:aM) (h:AH) (w:World) (σ':aM) (h':AH) (w':World):Prop where
 ext:aM.le σ σ'
 hr:HR P σ' h' w'
 os:w'.os=w.os
 tape:w'.tape=w.tape
 output:w'.output=w.output
 size:w.heap.size<=w'.heap.size
 next:h.next<=h'.next
 new:∀n b,σ' n=ω b->σ n=ξ->h.next<=n/\(w.heap.size<=b\/∃m,σ m=ω b)
 keep:∀n,n<h.next->σ n=ξ->h'.get n=h.get n
 frame:∀b,b<w.heap.size->(∀n,σ n≠ω b)->w'.heap[b]? = w.heap[b]?
 ro:∀n b c e,σ n=ω b->h.get n=ω (.cells c e true)->h'.get n=ω (.cells c e true)/\w'.heap[b]? = w.heap[b]?
theorem aM.le_refl (σ:aM):aM.le σ σ:=λ_ _ e=>⟨e,rfl⟩
theorem aM.le_trans {σ σ' σ'':aM}(a:aM.le σ σ') (b:aM.le σ' σ''):aM.le σ σ'':=λn c e=>⟨(b n c (a n c e).1).1,(b n c (a n c e).1).2.trans (a n c e).2⟩
theorem St.refl {P:Program}{σ:aM}{h:AH}{w:World}(hr:HR P σ h w):St P σ h w σ h w:=
 ⟨aM.le_refl σ,hr,rfl,rfl,rfl,Nat.le_refl _,Nat.le_refl _,(λn b a c=>by rw[c]at a;cases a),λ_ _ _=>rfl,λ_ _ _=>rfl,λ_ _ _ _ _ a=>⟨a,rfl⟩⟩
theorem St.trans {P:Program}{σ σ' σ'':aM}{h h' h'':AH}{w w' w'':World}(a:St P σ h w σ' h' w') (b:St P σ' h' w' σ'' h'' w''):St P σ h w σ'' h'' w'' where
 ext:=aM.le_trans a.ext b.ext
 hr:=b.hr
 os:=b.os.trans a.os
 tape:=b.tape.trans a.tape
 output:=b.output.trans a.output
 size:=Nat.le_trans a.size b.size
 next:=Nat.le_trans a.next b.next
 new:=λn c e0 e1=>by
  cases e2:σ' n with
  | none=>
   obtain⟨x,y⟩:=b.new n c e0 e2;refine⟨Nat.le_trans a.next x,?_⟩;rcases y with y | ⟨m,hm⟩
   .exact .inl (Nat.le_trans a.size y)
   .cases e3:σ m with
    | none=>exact(a.new m c hm e3).2
    | some d=>have:=(a.ext m d e3).1;rw[hm]at this;cases this;exact .inr ⟨m,e3⟩
  | some d=>
   have:=(b.ext n d e2).1;rw[e0]at this;cases this;exact a.new n c e2 e1
 keep:=λn hn e=>by
  have e2:σ' n=none:=by
   cases e3:σ' n with
   | none=>rfl
   | some d=>exact absurd (a.new n d e3 e).1 U
  rw[b.keep n (Nat.lt_of_lt_of_le hn a.next) e2,a.keep n hn e]
 frame:=λc hc hf=>by
  have hf':∀n,σ' n≠ω c:=λn e=>by
   cases e3:σ n with
   | none=>
    rcases(a.new n c e e3).2 with x | ⟨m,hm⟩
    .omega
    .exact hf m hm
   | some d=>have:=(a.ext n d e3).1;rw[e]at this;cases this;exact hf n e3
  rw[b.frame c (Nat.lt_of_lt_of_le hc a.size) hf',a.frame c hc hf]
 ro:=λn c l e hn hg=>by
  obtain⟨x,y⟩:=a.ro n c l e hn hg;obtain⟨z,t⟩:=b.ro n c l e (a.ext n c hn).1 x;exact⟨z,t.trans y⟩
theorem HR.drawn {P:Program}{σ:aM}{h:AH}{w w':World}(hr:HR P σ h w) (e:w'.heap=w.heap):HR P σ h w':=
 ⟨λn b x=>by rw[e];exact hr.lt n b x,λn b o x y=>by rw[e];exact hr.obj n b o x y,hr.inj,hr.none⟩
end Eva
end
section
open Go Go.RowKit
namespace Eva
section
variable {P:Program}{σ:aM}{w:World}
theorem am {t:TypeId}{d:TypeDesc}(h:P.underlying t=ω d):(underlying t).run P w = .ok d w:=run_underlying h w
theorem gH {t:TypeId}{i:TypeInfo}(h:P.info? t=ω i):(typeInfo t).run P w = .ok i w:=by
 simp[typeInfo,program,Sem.run,h]
theorem aZ {t:TypeId}{i:TypeInfo}(h:P.info? t=ω i):(sizeOf t).run P w = .ok i.size w:=by
 simp[sizeOf,gH h]
theorem dT {t:TypeId}{i:TypeInfo}{z:Value}(h:P.info? t=ω i) (hz:i.zero=ω z):(zeroValue t).run P w = .ok z w:=by
 simp[zeroValue,gH h,hz]
theorem iS {t:TypeId}{d:TypeDesc}(h:P.underlying t=ω d):(isAgg t).run P w = .ok (io d) w:=by
 cases d <;>simp[isAgg,am h,io]
theorem fv {α:Type}:∀(s:Sem α){a:α},ay P s=ω a->s.run P w = .ok a w:=by
 intro s
 induction s with
 | pure a=>intro b h;have h':ω a=ω b:=h;cases h';rfl
 | program k ih=>intro b h;exact ih P h
 | mark m k ih=>intro b h;exact ih h
 | _=>intro b h;exact absurd h (by intro h';cases h')
theorem bp (b o j:Nat):(⟨b,o,ξ⟩:Addr).add j=⟨b,o+j,ξ⟩:=by unfold Addr.add;split <;>simp_all
theorem av {a b:Nat}(h:Nat.beq a b=true):a=b:=Nat.eq_of_beq_eq_true h
theorem ae {α:Type}{c:Bool}{x:Option α}{y:α}(h:cond c x ξ=ω y):c=true/\x=ω y:=by cases c <;>simp_all
theorem yB {l r:List Value}{o n:Nat}(h:nF l o n=ω r):r=(l.drop o).take n/\r.length=n:=by
 unfold nF at h;obtain⟨h1,h2⟩:=ae h;cases h2;exact⟨rfl,av h1⟩
def PR (σ:aM) (c c':List Value):Prop:=∀(i:Nat) v,c[i]? = ω v->∃v',c'[i]? = ω v'/\VR σ v v'
theorem PR.of_vrs {c c':List Value}(h:bz σ c c'):PR σ c c':=λi v hv=>h.get hv
theorem PR.le {c c':List Value}(h:PR σ c c'):c.length<=c'.length:=by
 rcases Nat.lt_or_ge c'.length c.length with hlt | hge
 .obtain⟨v',h1,_⟩:=h c'.length c[c'.length] (List.getElem?_eq_getElem hlt);rw[List.getElem?_eq_none (Nat.le_refl _)]at h1;cases h1
 .exact hge
theorem PR.cut {c c' r:List Value}{o n:Nat}(h:PR σ c c') (hr:nF c o n=ω r):bz σ r ((c'.drop o).take n)/\r.length=n/\o+n<=c'.length\/(n=0/\r = []):=by
 obtain⟨e1,e2⟩:=yB hr;rcases Nat.eq_zero_or_pos n with rfl | hn
 .exact .inr ⟨rfl,List.eq_nil_of_length_eq_zero e2⟩
 .refine .inl ?_;have hl:o+n<=c.length:=by
   rw[e1]at e2;simp at e2;omega
  have hle:=h.le;refine⟨⟨by rw[e2];simp;omega,λi v v' hv hv'=>?_⟩,e2,U⟩;have hi:i<n:=by rw[<-e2];exact(List.getElem?_eq_some_iff.1 hv).1
  rw[e1,List.getElem?_take]at hv;rw[List.getElem?_take]at hv';simp only[hi,if_true,List.getElem?_drop]at hv hv';obtain⟨u,hu,hr'⟩:=h _ _ hv;rw[hu]at hv';cases hv';exact hr'
theorem rM {b:Nat}{c':Array Value}{e:TypeId}{f:Nat×Nat}(hb:w.heap[b]? = ω (.cells c' e f)) (o:Nat):w.cell? ⟨b,o,ξ⟩=c'[o]?:=by
 unfold World.cell?;simp[hb]
theorem ng {b o n:Nat}{c':Array Value}{e:TypeId}{f:Nat×Nat}(hb:w.heap[b]? = ω (.cells c' e f)) (hn:o+n<=c'.size) :
  (loadCells ⟨b,o,ξ⟩ n).run P w = .ok ((c'.toList.drop o).take n).toArray w:=by
 have hl:((c'.toList.drop o).take n).length=n:=by simp;omega
 have:=run_loadCells_list (P:=P) w ⟨b,o,ξ⟩ ((c'.toList.drop o).take n) (λj v hv=>by
  rw[bp,rM hb];rw[List.getElem?_take]at hv
  split at hv
  .rw[List.getElem?_drop]at hv;simpa using hv
  .cases hv)
 rw[hl]at this;exact this
theorem nX {b o:Nat}:(loadCells ⟨b,o,ξ⟩ 0).run P w = .ok #[] w:=rfl
theorem tG {t:TypeId}{c:List Value}{o:Nat}{v:Value}{b:Nat}{c':Array Value}{e:TypeId}{f:Nat×Nat}
  (h:gD P t c o=ω v) (hr:PR σ c c'.toList) (hb:w.heap[b]? = ω (.cells c' e f)) :
  ∃v',(loadVar t ⟨b,o,ξ⟩).run P w = .ok v' w/\VR σ v v':=by
 unfold gD at h
 split at h
 .rename_i d i hd hi;unfold tz at h;cases ha:io d with
  | true=>
   rw[ha]at h;simp only[cond_true,Option.map_eq_some_iff]at h;obtain⟨r,hr1,rfl⟩:=h;rcases hr.cut hr1 with⟨hv,hl,hle⟩ | ⟨h0,rfl⟩
   .refine⟨_,?_,VR.agg' hv⟩;simp only[loadVar,Sem.run_bind,iS hd,ha,Result.andThen_ok,if_true,aZ hi,ng hb (by simpa using hle),Sem.run_pure]
   .refine⟨.agg #[],?_,VR.agg' (bz.nil σ)⟩;simp only[loadVar,Sem.run_bind,iS hd,ha,Result.andThen_ok,if_true,aZ hi,h0,nX,Sem.run_pure]
  | false=>
   rw[ha]at h;simp only[cond_false]at h;obtain⟨v',h1,h2⟩:=hr _ _ h;refine⟨v',?_,h2⟩;have hc:w.cell? ⟨b,o,ξ⟩=ω v':=by rw[rM hb];simpa using h1
   simp[loadVar,iS hd,ha,load,Sem.run,hc]
 .cases h
theorem mi {t:TypeId}{c:List Value}{o:Nat}{v:Value}{c':Array Value}
  (h:gD P t c o=ω v) (hr:PR σ c c'.toList):∃v',(part t c' o).run P w = .ok v' w/\VR σ v v':=by
 unfold gD at h
 split at h
 .rename_i d i hd hi;unfold tz at h;cases ha:io d with
  | true=>
   rw[ha]at h;simp only[cond_true,Option.map_eq_some_iff]at h;obtain⟨r,hr1,rfl⟩:=h;have hx:c'.extract o (o+i.size)=((c'.toList.drop o).take i.size).toArray:=by
    apply Array.ext';simp[List.extract_eq_take_drop,List.drop_take]
   rcases hr.cut hr1 with⟨hv,hl,hle⟩ | ⟨h0,rfl⟩
   .refine⟨_,?_,VR.agg' hv⟩;simp only[part,Sem.run_bind,iS hd,ha,Result.andThen_ok,if_true,aZ hi,Sem.run_pure,hx]
   .refine⟨.agg #[],?_,VR.agg' (bz.nil σ)⟩;rw[h0]at hx;simp only[part,Sem.run_bind,iS hd,ha,Result.andThen_ok,if_true,aZ hi,Sem.run_pure,h0,hx,List.take_zero]
  | false=>
   rw[ha]at h;simp only[cond_false]at h;obtain⟨v',h1,h2⟩:=hr _ _ h;refine⟨v',?_,h2⟩;have hc:c'[o]? = ω v':=by simpa using h1
   simp[part,iS hd,ha,hc]
 .cases h
def yC (σ:aM) (fr:Fr) (ρ:Operand->Value) (o:Oper):Prop:=∀x∈o.op.operands,VR σ (ev fr x) (ρ x)
theorem de {o:Oper}{fr:Fr}{ρ:Operand->Value}{v:Value}(hs:jq o=true) (hE:yC σ fr ρ o) (h:zQ P o fr=ω v) :
  (execOp ρ o).run P w = .ok (.value v) w/\VR σ v v:=by
 unfold zQ at h;obtain⟨h1,h2⟩:=ae h;have hx:=aW h1;have he:execOp ρ o=execOp (ev fr) o:=execOp_congr o (λcs b e=>by simp[jq,e]at hs) λx hm=>by
  exact tF (hx x (Array.mem_toList_iff.2 hm)) (hE x hm)
 rw[he];unfold nJ at h2
 split at h2
 .rename_i u hu;obtain⟨h3,h4⟩:=ae h2;cases h4;exact⟨fv _ hu,dt h3⟩
 .cases h2
theorem iu {h:AH}(hr:HR P σ h w){n b:Nat}(hn:σ n=ω b){c:List Value}{e:TypeId}{f:Bool}(hg:aY h n=ω (c,e,f)) :
  ∃c' f',w.heap[b]? = ω (.cells c' e f')/\PR σ c c'.toList/\(f=false->f'.1=f'.2\/c'.size<=f'.1)/\h.get n=ω (.cells c e f)/\(∀i,P.info? e=ω i->σ.e b*i.size<=c'.size):=by
 unfold aY at hg
 split at hg
 .rename_i c0 e0 f0 hg';cases hg;obtain⟨o',ho,hor⟩:=hr.obj n b _ hn hg';cases hor with
  | cells x y z=>exact⟨_,_,ho,(λi v hv=>by obtain⟨v',h1,h2⟩:=x i v hv;exact⟨v',by simpa using h1,h2⟩),y,hg',z⟩
 .cases hg
theorem mj {h:AH}(hr:HR P σ h w){t:TypeId}{x x' v:Value}(hx:VR σ x x') (hv:ia P t x h=ω v) :
  ∃v',(Instr.loadAt t x').run P w = .ok v' w/\VR σ v v':=by
 unfold ia at hv
 split at hv
 .rename_i a
  split at hv
  .rename_i c e f hs hc;cases hx with
   | ptr hn=>
    obtain⟨c',f',hb,hp,_,_,_⟩:=iu hr hn hc;obtain⟨v',h1,h2⟩:=tG hv hp hb;exact⟨v',by simp[Instr.loadAt,Instr.sureAddr,h1],h2⟩
  .cases hv
 .cases hv
end
end Eva
end
section
open Go Go.RowKit
namespace Eva
section
variable {P:Program}{σ:aM}{w:World}
theorem ak {a b:Bool}(h:(a && b)=true):a=true/\b=true:=by simpa using h
theorem fJ {a b:Nat}(h:Nat.ble a b=true):a<=b:=Nat.le_of_ble_eq_true h
theorem du {a b:Nat}(h:Nat.blt a b=true):a<b:=Nat.le_of_ble_eq_true h
theorem ce {x x':Value}{n:Nat}(hx:VR σ x x') (h:bY x=ω n):∃k,x' = .int k n:=by
 unfold bY at h
 split at h
 .cases h;cases hx;exact⟨_,rfl⟩
 .cases h
theorem vE {o:Oper}{ρ:Operand->Value}{x:Operand}(ho:o.op = .nilCheck x){u v:Value}(hx:VR σ u (ρ x)) (hv:C4 u=ω v) :
  ∃v',(execOp ρ o).run P w = .ok (.value v') w/\VR σ v v':=by
 unfold C4 at hv
 split at hv
 .cases hv;generalize hr:ρ x=x' at hx;cases hx with
  | ptr hn=>exact⟨_,by simp only[execOp,ho,hr];rfl,.ptr hn⟩
 .cases hv;generalize hr:ρ x=x' at hx;cases hx with
  | func fn a b c d=>exact⟨_,by simp only[execOp,ho,hr];rfl,.func _ a b c d⟩
 .cases hv;generalize hr:ρ x=x' at hx;cases hx with
  | iface _ h=>exact⟨_,by simp only[execOp,ho,hr];rfl,.iface _ h⟩
 .cases hv
theorem rN {t:TypeId}{x x' v:Value}(hx:VR σ x x') (hv:rz P t x=ω v) :
  ∃v',(Instr.makeInterface t x').run P w = .ok v' w/\VR σ v v':=by
 unfold rz at hv
 split at hv
 .cases hv
 .rename_i d hne hd;cases hv;refine⟨_,?_,.iface t hx⟩;cases d <;>simp_all[Instr.makeInterface,am hd]
 .cases hv
def ON (x:Option Value) (n:Option Nat):Prop:=
 match x,n with
 | none,ξ=>True
 | some v,ω n=>∃k,v = .int k (n:Int)
 | _,_=>False
theorem df {fr:Fr}{ρ:Operand->Value}{x:Option Operand}{n:Option Nat}(hx:∀y,x=ω y->VR σ (ev fr y) (ρ y)) (h:ip fr x=ω n):ON (x.map ρ) n:=by
 unfold ip at h
 split at h
 .cases h;trivial
 .rename_i y;rw[Option.map_eq_some_iff]at h;obtain⟨m,hm,rfl⟩:=h;exact ce (hx y rfl) hm
theorem yD {k:IntKind}{n y:Nat}{code:BoundsCode}(h:n<=y):(Instr.sliceBound (.int k (n:Int)) y code).run P w = .ok n w:=by
 simp[Instr.sliceBound,asIntOf,h]
theorem jB {isS:Bool}{len cap:Nat}{lo hi mx:Option Value}{l h m:Option Nat}(hl:ON lo l) (hh:ON hi h) (hm:ON mx m)
  (c1:m.isNone=true\/h.isSome=true) (c2:∀x,m=ω x->x<=cap) (c3:∀x,h=ω x->x<=m.getD cap) (c4:∀x,l=ω x->x<=h.getD len) :
  (Instr.sliceBounds isS len cap lo hi mx).run P w = .ok (l.getD 0,h.getD len,m.getD cap) w:=by
 have hb:∀{k:IntKind}{n y:Nat}{code:BoundsCode},n<=y->(Instr.sliceBound (.int k (n:Int)) y code).run P w = .ok n w:=λh=>yD h;cases mx with
 | none=>
  cases m with
  | some m=>exact hm.elim
  | none=>
   cases hi with
   | none=>
    cases h with
    | some h=>exact hh.elim
    | none=>
     cases lo with
     | none=>
      cases l with
      | some l=>exact hl.elim
      | none=>simp[Instr.sliceBounds]
     | some lv=>
      cases l with
      | none=>exact hl.elim
      | some l=>obtain⟨k,rfl⟩:=hl;have:=c4 l rfl;simp at this;simp[Instr.sliceBounds,hb this]
   | some hv=>
    cases h with
    | none=>exact hh.elim
    | some h=>
     obtain⟨k,rfl⟩:=hh;have e3:=c3 h rfl;simp at e3;cases lo with
     | none=>
      cases l with
      | some l=>exact hl.elim
      | none=>simp[Instr.sliceBounds,hb e3]
     | some lv=>
      cases l with
      | none=>exact hl.elim
      | some l=>obtain⟨k,rfl⟩:=hl;have:=c4 l rfl;simp at this;simp[Instr.sliceBounds,hb this,hb e3]
 | some mv=>
  cases m with
  | none=>exact hm.elim
  | some m=>
   obtain⟨k,rfl⟩:=hm;have e2:=c2 m rfl;cases hi with
   | none=>
    cases h with
    | some h=>exact hh.elim
    | none=>simp at c1
   | some hv=>
    cases h with
    | none=>exact hh.elim
    | some h=>
     obtain⟨k,rfl⟩:=hh;have e3:=c3 h rfl;simp at e3;cases lo with
     | none=>
      cases l with
      | some l=>exact hl.elim
      | none=>simp[Instr.sliceBounds,hb e2,hb e3]
     | some lv=>
      cases l with
      | none=>exact hl.elim
      | some l=>obtain⟨k,rfl⟩:=hl;have:=c4 l rfl;simp at this;simp[Instr.sliceBounds,hb e2,hb e3,hb this]
theorem tH {n b o c low size:Nat}(hn:σ n=ω b){len K c':Nat}(hK:CR K c') (hx:K % 2=0){l:Nat}(hl:low=l) :
  VR σ (.slice (nG (ω ⟨n,o,ξ⟩) c low size) len K) (.slice (ω (if c=l then⟨b,o,ξ⟩ else(⟨b,o,ξ⟩:Addr).add (l*size))) len c'):=by
 subst hl;unfold nG;by_cases h:c=low
 .subst h;simp only[Nat.beq_refl,cond_true,if_true];exact .sl hn hK (λh=>U)
 .have:Nat.beq c low=false:=by cases hb:Nat.beq c low with | false=>rfl | true=>exact absurd (av hb) h
  simp only[this,cond_false,h,if_false,Option.map_some,bp];exact .sl hn hK (λh=>U)
theorem qB {size n b o len K c' low:Nat}{high max:Option Nat}{v:Value}(hn:σ n=ω b) (hK:CR K c') (hE:K % 2=1->o=0->c'<=σ.e b)
  (hv:cT size (ω ⟨n,o,ξ⟩) len K low high max=ω v) :
  (∀x,max=ω x->x<=c')/\(high.getD len<=max.getD c')/\low<=high.getD len/\
  VR σ v (.slice (ω (if max.getD c' = low then⟨b,o,ξ⟩ else(⟨b,o,ξ⟩:Addr).add (low*size))) (high.getD len - low) (max.getD c' - low)):=by
 have hle:=hK.le;unfold cT at hv;cases max with
 | some m=>
  simp only at hv;obtain⟨h1,h2⟩:=ae hv;obtain⟨h3,h4⟩:=ak h1;obtain⟨h5,h6⟩:=ak h3;cases h2;have a1:=fJ h5;have a2:=fJ h6;have a3:=fJ h4;refine⟨(λx hx=>by cases hx;omega),a2,a3,?_⟩;exact tH hn (CR.cx _) (by unfold cx;omega) rfl
 | none=>
  simp only at hv;obtain⟨h1,h2⟩:=ae hv;obtain⟨h3,h4⟩:=ak h1;have a1:=fJ h3;have a2:=fJ h4;refine⟨(λx hx=>by cases hx),?_,a2,?_⟩
  .simp only[Option.getD_none];omega
  .cases he:Nat.beq (K % 2) 0 with
   | true=>
    rw[he]at h2;cases h2;have hc:c' = K / 2:=hK.1 (av he);subst hc;exact tH hn (CR.cx _) (by unfold cx;omega) rfl
   | false=>
    rw[he]at h2;cases h2;simp only[cond_false,nI];cases hb:Nat.blt low (K / 2) with
    | true=>
     have:=du hb;simp only[cond_true,Option.getD_none,Option.map_some,bp,if_neg (show ¬c' = low by omega)];have hk:¬K % 2=0:=λe0=>by rw[e0]at he;cases he
     have hq:o+low*size=0->c' - low<=σ.e b:=λho=>by
      have:=hE U U;omega
     exact .sl hn (CR.cl U) (λ_ ho=>hq ho)
    | false=>
     have hge:¬low<K / 2:=λh=>by rw[show Nat.blt low (K / 2)=true from Nat.ble_eq_true_of_le h]at hb;cases hb
     simp only[cond_false,Option.getD_none];have h0:high.getD len - low=0:=U;rw[h0];exact .far
theorem rO {o:Oper}{fr:Fr}{ρ:Operand->Value}{t:TypeId}{x:Operand}{lo hi mx:Option Operand}(ho:o.op = .slice t x lo hi mx) (hE:yC σ fr ρ o)
  {v:Value}(hv:vv P o fr (P.underlying t) (ev fr x) (ip fr lo) (ip fr hi) (ip fr mx)=ω v) :
  ∃v',(execOp ρ o).run P w = .ok (.value v') w/\VR σ v v':=by
 have hx:VR σ (ev fr x) (ρ x):=hE x (by simp[ho,Op.operands]);have hlo:∀y,lo=ω y->VR σ (ev fr y) (ρ y):=λy hy=>hE y (by simp[ho,Op.operands,hy]);have hhi:∀y,hi=ω y->VR σ (ev fr y) (ρ y):=λy hy=>hE y (by simp[ho,Op.operands,hy]);have hmx:∀y,mx=ω y->VR σ (ev fr y) (ρ y):=λy hy=>hE y (by simp[ho,Op.operands,hy]);have key:∀r:Value,(Instr.sliceAt t (ρ x) (lo.map ρ) (hi.map ρ) (mx.map ρ)).run P w = .ok r w->(execOp ρ o).run P w = .ok (.value r) w:=by
  intro r hr;simp[execOp,ho,hr]
 unfold vv at hv
 split at hv
 .obtain⟨h1,h2⟩:=de (w:=w) (by simp[jq,ho]) hE hv;exact⟨v,h1,h2⟩
 .rename_i a len K hex
  split at hv
  .rename_i e l hh m hd hl' hh' hm';have ol:=df hlo hl';have oh:=df hhi hh';have om:=df hmx hm';unfold aG at hv
   split at hv
   .rename_i i hi'
    split at hv
    .obtain⟨h1,h2⟩:=ae hv;cases h2;obtain⟨h1,c6⟩:=ak h1;obtain⟨h1,c5⟩:=ak h1;obtain⟨h1,c4⟩:=ak h1;obtain⟨h1,c3⟩:=ak h1;obtain⟨c1,c2⟩:=ak h1;have c1:=av c1;have c2:=av c2;have c3:=av c3;have c4:=av c4;have c5:=av c5;subst c1;subst c2;rw[hex]at hx;generalize hρ:ρ x=x' at hx;cases hx with
     | sl0=>
      refine⟨η ξ 0 0,key _ ?_,.sl0⟩;have hb:=jB (P:=P) (w:=w) (isS:=true) (len:=0) (cap:=0) ol oh om (by simpa using c6) (λx hx=>by rw[hx]at c5;simp at c5;omega)
       (λx hx=>by rw[hx]at c4;simp at c4;omega) (λx hx=>by rw[hx]at c3;simp at c3;omega)
      rw[hρ];simp only[Instr.sliceAt,Sem.run_bind,am hd,Result.andThen_ok,Instr.slice,hb,aZ hi',Sem.run_pure];rw[c3,c4];cases m with
      | none=>simp
      | some m=>simp at c5;subst c5;simp
    .rename_i b
     split at hv
     .rename_i hsp;obtain⟨h1,h2⟩:=ae hv;rw[hex]at hx;generalize hρ:ρ x=x' at hx;cases hx with
      | sl hn hK hq=>
       obtain⟨q1,q2,q3,q4⟩:=qB hn hK hq h2;refine⟨_,key _ ?_,q4⟩;have hb:=jB (P:=P) (w:=w) (isS:=true) ol oh om (by simpa using h1) q1 (λx hx=>by rw[hx]at q2;simpa using q2) (λx hx=>by rw[hx]at q3;simpa using q3);rw[hρ];simp only[Instr.sliceAt,Sem.run_bind,am hd,Result.andThen_ok,Instr.slice,hb,aZ hi',Sem.run_pure]
       congr 2
       split <;>rfl
      | far=>simp at hsp
     .cases hv
   .cases hv
  .cases hv
 .rename_i b hex
  split at hv
  .rename_i n e l hh hd hl' hh' hm';have ol:=df hlo hl';have oh:=df hhi hh';have om:=df hmx hm';unfold rA at hv
   split at hv
   .rename_i i hi' hsp;rw[hex]at hx;generalize hρ:ρ x=x' at hx;cases hx with
    | ptr hn=>
     obtain⟨q1,q2,q3,q4⟩:=qB hn (CR.cx n) (λh=>by unfold cx at h;omega) hv;refine⟨_,key _ ?_,q4⟩;have hb:=jB (P:=P) (w:=w) (isS:=false) ol oh om (.inl rfl) q1 (λx hx=>by rw[hx]at q2;simpa using q2) (λx hx=>by rw[hx]at q3;simpa using q3);rw[hρ];simp only[Instr.sliceAt,Sem.run_bind,am hd,Result.andThen_ok,Instr.sureAddr,hb,aZ hi',Sem.run_pure]
   .cases hv
  .cases hv
 .cases hv
end
end Eva
end
section
open Go Go.RowKit
namespace Eva
section
variable {P:Program}{σ:aM}{w:World}
theorem lC {s:TypeId}{x x' v:Value}{f:Nat}(hx:VR σ x x') (hv:gE P (P.underlying s) x f=ω v) :
  ∃v',(Instr.fieldAt s x' f).run P w = .ok v' w/\VR σ v v':=by
 unfold gE at hv
 split at hv
 .rename_i fields a hd
  split at hv
  .rename_i fd hf hs
   split at hv
   .rename_i i hi;cases hz:Nat.beq i.size 0 with
    | true=>rw[hz]at hv;cases hv
    | false=>
     rw[hz]at hv;cases hv;have hne:¬i.size=0:=λe=>by rw[e]at hz;cases hz
     cases hx with
     | ptr hn=>
      refine⟨_,?_,by rw[bp];exact .ptr hn⟩;simp only[Instr.fieldAt,Sem.run_bind,am hd,Result.andThen_ok,hf,Instr.sureAddr,Sem.run_pure,fieldPlace,aZ hi,hne,if_false,bp]
   .cases hv
  .cases hv
 .cases hv
theorem PR.of_agg {c c':Array Value}(hs:c.size=c'.size) (h:∀(i:Nat) v v',c[i]? = ω v->c'[i]? = ω v'->VR σ v v'):PR σ c.toList c'.toList:=by
 intro i v hv;have hi:i<c'.size:=by rw[<-hs];exact(Array.getElem?_eq_some_iff.1 (by simpa using hv)).1
 exact⟨c'[i],by simp[hi],h i v _ (by simpa using hv) (Array.getElem?_eq_getElem hi)⟩
theorem rP {t:TypeId}{x x' v:Value}{f:Nat}(hx:VR σ x x') (hv:rB P (P.underlying t) x f=ω v) :
  ∃v',(Instr.field t x' f).run P w = .ok v' w/\VR σ v v':=by
 unfold rB at hv
 split at hv
 .rename_i fields cs hd
  split at hv
  .rename_i fd hf;cases hx with
   | agg hs hx=>
    obtain⟨v',h1,h2⟩:=mi (w:=w) hv (PR.of_agg hs hx);exact⟨v',by simp[Instr.field,am hd,hf,asAgg,h1],h2⟩
  .cases hv
 .cases hv
theorem lD {t:TypeId}{x x' y y' v:Value}(hx:VR σ x x') (hy:VR σ y y') (hv:dI P (P.underlying t) x (bY y)=ω v) :
  ∃v',(Instr.indexAt t x' y').run P w = .ok v' w/\VR σ v v':=by
 unfold dI at hv
 split at hv
 .rename_i e a len K i hd hi;obtain⟨k,rfl⟩:=ce hy hi;unfold idx at hv
  split at hv
  .rename_i inf hinf hs;obtain⟨h1,h2⟩:=ae hv;cases h2;have hlt:=du h1;cases hx with
   | sl hn hK hq=>
    refine⟨_,?_,by rw[bp];exact .ptr hn⟩;have:(0:Int)<=i/\(i:Int)<(len:Int):=U;simp[Instr.indexAt,asIntOf,am hd,aZ hinf,hlt,bp]
   | far=>simp at hs
  .cases hv
 .rename_i n e a i hd hi;obtain⟨k,rfl⟩:=ce hy hi;unfold idx at hv
  split at hv
  .rename_i inf hinf hs;obtain⟨h1,h2⟩:=ae hv;cases h2;have hlt:=du h1;cases hx with
   | ptr hn=>
    refine⟨_,?_,by rw[bp];exact .ptr hn⟩;simp[Instr.indexAt,asIntOf,am hd,aZ hinf,hlt,bp,Instr.sureAddr]
  .cases hv
 .cases hv
theorem yE (s:ByteArray) (i:Nat):s[i]? = s.data.toList[i]?:=by
 by_cases h:i<s.size
 .rw[getElem?_pos s i h];have h2:i<s.data.toList.length:=by simpa using h
  rw[List.getElem?_eq_getElem h2];rfl
 .rw[getElem?_neg s i h,List.getElem?_eq_none (by simpa using h)]
theorem rQ {t:TypeId}{x x' y y' v:Value}(hx:VR σ x x') (hy:VR σ y y') (hv:iq P (P.underlying t) x (bY y)=ω v) :
  ∃v',(Instr.index t x' y').run P w = .ok v' w/\VR σ v v':=by
 unfold iq at hv
 split at hv
 .rename_i n e cs i hd hi;obtain⟨k,rfl⟩:=ce hy hi
  split at hv
  .rename_i inf hinf;obtain⟨h1,h2⟩:=ae hv;have hlt:=du h1;cases hx with
   | agg hs hx=>
    obtain⟨v',h3,h4⟩:=mi (w:=w) h2 (PR.of_agg hs hx);exact⟨v',by simp[Instr.index,asIntOf,am hd,aZ hinf,hlt,h3],h4⟩
  .cases hv
 .rename_i s i hd hi;obtain⟨k,rfl⟩:=ce hy hi
  split at hv
  .rename_i b hb;cases hv;cases hx;refine⟨_,?_,.int _ _⟩;have hb':s[i]? = ω b:=by rw[yE];exact hb
   simp[Instr.index,asIntOf,am hd,hb']
  .cases hv
 .cases hv
theorem nY {x x' v:Value}{i:Nat}(hx:VR σ x x') (hv:kg x i=ω v):∃v',(Instr.extract x' i).run P w = .ok v' w/\VR σ v v':=by
 unfold kg at hv
 split at hv
 .cases hx with
  | tuple hs hx=>
   obtain⟨v',h1,h2⟩:=PR.of_agg hs hx i v hv;have h1':_:=h1;rw[Array.getElem?_toList]at h1';exact⟨v',by simp[Instr.extract,h1'],h2⟩
 .cases hv
def ER (σ:aM) (es:List (Value×Value×Nat)) (es':List MapEntry):Prop:=
 es.length=es'.length/\∀(i:Nat) k v b,es[i]? = ω (k,v,b)->∃e',es'[i]? = ω e'/\VR σ k e'.key/\VR σ v e'.val/\e'.born=b
theorem ER.tail {x:Value×Value×Nat}{e:MapEntry}{es:List (Value×Value×Nat)}{es':List MapEntry}(h:ER σ (x :: es) (e :: es')):ER σ es es':=
 ⟨by simpa using h.1,λi k v b hi=>h.2 (i+1) k v b (by simpa using hi)⟩
theorem ER.head {k v:Value}{b:Nat}{e:MapEntry}{es:List (Value×Value×Nat)}{es':List MapEntry}(h:ER σ ((k,v,b) :: es) (e :: es')):VR σ k e.key/\VR σ v e.val:=by
 obtain⟨e',h1,h2,h3,_⟩:=h.2 0 k v b rfl;simp at h1;subst h1;exact⟨h2,h3⟩
theorem tI (kt:TypeId) (a b:Value):∃d0,Op.equal kt a b=Op.equalIn (d0+1) kt a b:=⟨9999,rfl⟩
theorem As (e:Bool) (kt:TypeId) (k:Value):∃d0,Instr.checkKey e 10000 kt k=Instr.checkKey e (d0+1) kt k:=⟨9999,rfl⟩
theorem nZ {kt:TypeId}{d:TypeDesc}(hd:P.underlying kt=ω d){a b:Value}{r:Bool}(h:Instr.sameNow d a b=ω r):(Op.equal kt a b).run P w = .ok r w:=by
 obtain⟨d0,e⟩:=tI kt a b;rw[e];unfold Instr.sameNow at h
 split at h
 .rename_i k x k' y
  split at h
  .rename_i hk;cases h;simp[Op.equalIn,am hd,hk]
  .cases h
 .cases h;simp[Op.equalIn,am hd]
 .cases h;simp[Op.equalIn,am hd]
 .cases h
theorem od {kt:TypeId}{d:TypeDesc}(hd:P.underlying kt=ω d){k:Value}:∀(es:List MapEntry) (i:Nat){r:Option (Nat×Value)},Instr.findNow d k es i=ω r->
  (Instr.findAsking kt k es i).run P w = .ok r w
 | [],i,r,h=>by simp[Instr.findNow]at h;subst h;simp[Instr.findAsking]
 | e :: es,i,r,h=>by
  simp only[Instr.findNow]at h
  split at h
  .rename_i hs;cases h;simp[Instr.findAsking,nZ (w:=w) hd hs]
  .rename_i hs;simp[Instr.findAsking,nZ (w:=w) hd hs,od hd es (i+1) h]
  .cases h
theorem fz {kt:TypeId}{d:TypeDesc}(hd:P.underlying kt=ω d){k:Value}{es:List MapEntry}{r:Option (Nat×Value)}(h:(Instr.findAsking kt k es 0).run P w = .ok r w) :
  (Instr.findKey kt k es).run P w = .ok r w:=by
 unfold Instr.findKey;simp only[Sem.run_bind,am hd,Result.andThen_ok]
 split
 .rename_i r' hr;have:=od (w:=w) hd es 0 hr;rw[h]at this;cases this;rfl
 .exact h
def FR (σ:aM) (r r':Option (Nat×Value)):Prop:=
 match r,r' with
 | none,ξ=>True
 | some (i,v),ω (j,v')=>i=j/\VR σ v v'
 | _,_=>False
theorem dX {kt:TypeId}{k:Value}:∀(es:List (Value×Value×Nat)) (es':List MapEntry) (i:Nat){r:Option (Nat×Value)},ER σ es es'->fT P kt k es i=ω r->
  pl k=true/\∃r',(Instr.findAsking kt k es' i).run P w = .ok r' w/\FR σ r r'
 | [],es',i,r,hE,h=>by
  have h':cond (pl k) (ω ξ) ξ=ω r:=h;obtain⟨h1,h2⟩:=ae h';cases h2;have:es' = []:=List.eq_nil_of_length_eq_zero (by simpa using hE.1.symm);subst this;exact⟨h1,ξ,by simp[Instr.findAsking],trivial⟩
 | (key,v,b) :: es,es',i,r,hE,h=>by
  have h':cond (pl k && pl key) (nK i v (fT P kt k es (i+1)) (ay P (Op.equal kt k key))) ξ=ω r:=h;obtain⟨h1,h2⟩:=ae h';obtain⟨h3,h4⟩:=ak h1;cases es' with
  | nil=>have:=hE.1;simp at this
  | cons e es'=>
   obtain⟨hk,hvv⟩:=hE.head;have hke:e.key=key:=tF h4 hk;unfold nK at h2
   split at h2
   .rename_i hq;cases h2;refine⟨h3,ω (i,e.val),?_,rfl,hvv⟩;simp[Instr.findAsking,hke,fv (w:=w) _ hq]
   .rename_i hq;obtain⟨_,r',h5,h6⟩:=dX es es' (i+1) hE.tail h2;refine⟨h3,r',?_,h6⟩;simp[Instr.findAsking,hke,fv (w:=w) _ hq,h5]
   .cases h2
theorem ml {kt:TypeId}{e:Bool}{k:Value}(h:ki P kt e k=true):(Instr.checkKey e 10000 kt k).run P w = .ok () w:=by
 unfold ki at h
 split at h
 .rename_i u hu;exact fv _ hu
 .cases h
theorem vF {h:AH}(hr:HR P σ h w){n b:Nat}(hn:σ n=ω b){es:List (Value×Value×Nat)}{clock:Nat}(hg:h.get n=ω (.map es clock)) :
  ∃es',w.heap[b]? = ω (.map es' clock)/\ER σ es es'.toList:=by
 obtain⟨o',ho,hor⟩:=hr.obj n b _ hn hg;cases hor with
 | map x y=>exact⟨_,ho,by simpa using x,λi k v c hi=>by obtain⟨e',h1,h2⟩:=y i k v c hi;exact⟨e',by simpa using h1,h2⟩⟩
theorem eR {b:Nat}{es':Array MapEntry}{clock:Nat}(h:w.heap[b]? = ω (.map es' clock)):(getObj b).run P w = .ok (.map es' clock) w:=by
 simp[getObj,Sem.run,h]
theorem qC {kt:TypeId}{e:Bool}{k:Value}(h:(Instr.checkKey e 10000 kt k).run P w = .ok () w):∃d,P.underlying kt=ω d:=by
 cases hq:P.underlying kt with
 | some d=>exact⟨d,rfl⟩
 | none=>
  exfalso;obtain⟨d0,e1⟩:=As e kt k;rw[e1]at h;simp[Instr.checkKey,underlying,program,Sem.run,hq,stuck]at h
theorem qD {kt e:TypeId}{i:TypeInfo}{k:Value}{ok:Bool}{es:List (Value×Value×Nat)}{es':Array MapEntry}{v:Value}(hE:ER σ es es'.toList) (hi:P.info? e=ω i)
  (hc:(Instr.checkKey es.isEmpty 10000 kt k).run P w = .ok () w) (h:rC ok i.zero (fT P kt k es 0)=ω v) :
  es'.isEmpty=es.isEmpty/\∃v' r',VR σ v v'/\(Instr.findKey kt k es'.toList).run P w = .ok r' w/\
   ((∃j u,r' = ω (j,u)/\v' = (if ok then .tuple #[u,.bool true] else u))\/(r' = ξ/\∃z,i.zero=ω z/\v' = (if ok then .tuple #[z,.bool false] else z))):=by
 obtain⟨d,hdd⟩:=qC hc;refine⟨?_,?_⟩
 .have:=hE.1;cases es with
  | nil=>simp at this;simp[Array.isEmpty,<-this]
  | cons a l=>
   have h0:es'.size≠0:=by simp at this;omega
   simp[Array.isEmpty,h0]
 .unfold rC at h
  split at h
  .rename_i j u hf;cases h;obtain⟨_,r',h5,h6⟩:=dX (w:=w) es es'.toList 0 hE hf;cases r' with
   | none=>exact h6.elim
   | some p=>
    obtain⟨j',u'⟩:=p;obtain⟨rfl,hu⟩:=h6;refine⟨_,_,?_,fz hdd h5,.inl ⟨_,_,rfl,rfl⟩⟩;cases ok
    .exact hu
    .exact VR.tuple' (bz.cons hu (bz.cons (.bool _) (bz.nil σ)))
  .rename_i hf
   split at h
   .rename_i z hz;obtain⟨h7,h8⟩:=ae h;cases h8;obtain⟨_,r',h5,h6⟩:=dX (w:=w) es es'.toList 0 hE hf;cases r' with
    | some p=>exact h6.elim
    | none=>
     refine⟨_,_,?_,fz hdd h5,.inr ⟨rfl,z,hz,rfl⟩⟩;cases ok
     .exact dt h7
     .exact VR.tuple' (bz.cons (dt h7) (bz.cons (.bool _) (bz.nil σ)))
   .cases h
  .cases h
theorem pR {h:AH}(hr:HR P σ h w){t:TypeId}{x x' k k' v:Value}{ok:Bool}(hx:VR σ x x') (hk:VR σ k k') (hv:bE P (P.underlying t) x k ok h=ω v) :
  ∃v',(Instr.lookup t x' k' ok).run P w = .ok v' w/\VR σ v v':=by
 unfold bE at hv
 split at hv
 .rename_i kt e r hd
  split at hv
  .rename_i es i hes hi;obtain⟨h1,h2⟩:=ae hv;obtain⟨h3,h4⟩:=ak h1;have hke:=tF h3 hk;subst hke;have hc:=ml (w:=w) h4;unfold kh at hes;cases hx with
   | map0=>
    simp at hes;subst hes;obtain⟨hemp,v',r',hV,hf,hcase⟩:=qD (es':=#[]) ⟨rfl,λi k v b h=>by simp at h⟩ hi hc h2;refine⟨v',?_,hV⟩;rcases hcase with⟨j,u,rfl,rfl⟩ | ⟨rfl,z,hz,rfl⟩
    .simp only[Instr.lookup,Sem.run_bind,am hd,Result.andThen_ok,Sem.run_pure,hemp,hc,hf]
    .simp only[Instr.lookup,Sem.run_bind,am hd,Result.andThen_ok,Sem.run_pure,hemp,hc,hf,dT hi hz]
   | map hn=>
    simp only at hes
    split at hes
    .rename_i es0 clock hg;cases hes;obtain⟨es',hb,hE⟩:=vF hr hn hg;obtain⟨hemp,v',r',hV,hf,hcase⟩:=qD hE hi hc h2;refine⟨v',?_,hV⟩;rcases hcase with⟨j,u,rfl,rfl⟩ | ⟨rfl,z,hz,rfl⟩
     .simp only[Instr.lookup,Sem.run_bind,am hd,Result.andThen_ok,Sem.run_pure,eR hb,hemp,hc,hf]
     .simp only[Instr.lookup,Sem.run_bind,am hd,Result.andThen_ok,Sem.run_pure,eR hb,hemp,hc,hf,dT hi hz]
    .cases hes
  .cases hv
 .cases hv
end
end Eva
end
section
open Go Go.RowKit
namespace Eva
section
variable {P:Program}{σ:aM}{w:World}
theorem tJ {o:Oper}{op:BinOp}{t t2:TypeId}{x y:Operand}{ρ:Operand->Value}(ho:o.op = .binOp op t x y t2){k:IntKind}{a b:Int}(hx:ρ x = .int k a) (hy:ρ y = .int k b)
  {other:Option Value}{v:Value}(hv:qu op k a b other=ω v) (hoth:other=ω v->(execOp ρ o).run P w = .ok (.value v) w/\VR σ v v) :
  (execOp ρ o).run P w = .ok (.value v) w/\VR σ v v:=by
 unfold qu at hv
 split at hv
 all_goals first
  | exact hoth hv
  | (cases hv;refine⟨?_,by first | exact .int _ _ | exact .bool _⟩;simp[execOp,ho,hx,hy,eqGuard,binOp,Op.intArith,Op.intCmp];done)
  | (cases hv;refine⟨?_,by first | exact .int _ _ | exact .bool _⟩;simp[execOp,ho,hx,hy,eqGuard,binOp,Op.intArith,Op.intCmp])
theorem yF {t:TypeId}{x y x' y':Value}(hx:VR σ x x') (hy:VR σ y y') (h:kj (P.underlying t) x y=true) :
  (Op.equal t x' y').run P w = .ok false w/\(∀op xo yo,(op=BinOp.eql\/op = .neq)->(eqGuard op t xo yo x' y').run P w = .ok () w/\
   (binOp .eql t x' y' = (do pure (.bool (<-Op.equal t x' y'))))/\(binOp .neq t x' y' = (do pure (.bool (!(<-Op.equal t x' y')))))):=by
 obtain⟨d0,e⟩:=tI t x' y';cases hd:P.underlying t with
 | none=>
  rw[hd]at h;exfalso;cases hx <;>cases hy <;>simp[kj,nL,vw,cV,rD,gF,eG,pQ]at h
 | some d=>
  rw[hd]at h;cases hx <;>cases hy <;>simp[kj,eG,pQ,nL,vw,cV,rD,gF]at h <;>
   (cases d <;>simp at h <;>refine⟨by rw[e];simp[Op.equalIn,am hd],λop xo yo hop=>⟨by rcases hop with rfl | rfl <;>simp[eqGuard],by rfl,by rfl⟩⟩)
theorem vG {o:Oper}{fr:Fr}{ρ:Operand->Value}{op:BinOp}{t t2:TypeId}{x y:Operand}(ho:o.op = .binOp op t x y t2) (hE:yC σ fr ρ o)
  {v:Value}(hv:EE P op t o fr (ev fr x) (ev fr y)=ω v):∃v',(execOp ρ o).run P w = .ok (.value v') w/\VR σ v v':=by
 have hx:VR σ (ev fr x) (ρ x):=hE x (by simp[ho,Op.operands]);have hy:VR σ (ev fr y) (ρ y):=hE y (by simp[ho,Op.operands]);have hsel:jq o=true:=by simp[jq,ho]
 unfold EE at hv
 split at hv
 .rename_i k a l b hxe hye;rw[hxe]at hx;rw[hye]at hy;cases hkl:(k == l) with
  | false=>
   rw[hkl]at hv;obtain⟨h1,h2⟩:=de (w:=w) hsel hE hv;exact⟨v,h1,h2⟩
  | true=>
  rw[hkl]at hv;have h2:qu op k a b (zQ P o fr)=ω v:=hv;have hk:k=l:=by simpa using hkl
  subst hk;have ex:ρ x = .int k a:=by generalize ρ x=x' at hx;cases hx;rfl
  have ey:ρ y = .int k b:=by generalize ρ y=y' at hy;cases hy;rfl
  obtain⟨h3,h4⟩:=tJ (σ:=σ) (w:=w) ho ex ey h2 (λh=>de hsel hE h);exact⟨v,h3,h4⟩
 .unfold Ag at hv
  split at hv
  .rename_i hk;obtain⟨h1,h2⟩:=yF (w:=w) hx hy hk
   split at hv
   .cases hv;obtain⟨g1,g2,_⟩:=h2 .eql x y (.inl rfl);exact⟨_,by simp only[execOp,ho,Sem.run_bind,g1,Result.andThen_ok,g2,h1,Sem.run_pure],.bool _⟩
   .cases hv;obtain⟨g1,_,g3⟩:=h2 .neq x y (.inr rfl);exact⟨_,by simp only[execOp,ho,Sem.run_bind,g1,Result.andThen_ok,g3,h1,Sem.run_pure,Bool.not_false],.bool _⟩
   .cases hv
  .obtain⟨h1,h2⟩:=de (w:=w) hsel hE hv;exact⟨v,h1,h2⟩
theorem vH {h:AH}(hr:HR P σ h w){o:Oper}{fr:Fr}{t ty:TypeId}{ts:Array TypeId}{x x' v:Value}(ht:ts[0]? = ω t) (hx:VR σ x x') (hv:yv P o fr h (P.underlying t) x=ω v) :
  ∃v',(Builtin.len_ ts ty #[x']).run P w = .ok v' w/\VR σ v v':=by
 unfold yv at hv
 split at hv
 .rename_i a n K;obtain⟨h1,h2⟩:=ae hv;cases h2;cases hd:P.underlying t with
  | none=>rw[hd]at h1;cases h1
  | some d=>
   rw[hd]at h1;cases d <;>simp[cV]at h1;cases hx <;>exact⟨_,by simp[Builtin.len_,ht,am hd];rfl,.int _ _⟩
 .rename_i r;obtain⟨h1,h2⟩:=ae hv;cases hd:P.underlying t with
  | none=>rw[hd]at h1;cases h1
  | some d=>
   rw[hd]at h1;cases d <;>simp[gF]at h1;unfold rF at h2
   split at h2
   .rename_i es clock hg;cases h2;cases hx with
    | map hn=>
     obtain⟨es',hb,hE⟩:=vF hr hn hg;refine⟨_,?_,.int _ _⟩;have:es'.size=es.length:=by simpa using hE.1.symm
     simp[Builtin.len_,ht,am hd,eR hb,goInt,this]
   .cases h2
 .split at hv
  .rename_i s d hd;cases hv;cases hx;exact⟨_,by simp[Builtin.len_,ht,am hd];rfl,.int _ _⟩
  .cases hv
 .cases hv
theorem vI {t ty:TypeId}{ts:Array TypeId}{x x' v:Value}(ht:ts[0]? = ω t) (hx:VR σ x x') (hv:vA (P.underlying t) x=ω v) :
  ∃v',(Builtin.cap_ ts ty #[x']).run P w = .ok v' w/\VR σ v v':=by
 unfold vA at hv
 split at hv
 .rename_i a n K;obtain⟨h1,h2⟩:=ae hv;obtain⟨h3,h4⟩:=ak h1;cases h2;cases hd:P.underlying t with
  | none=>rw[hd]at h3;cases h3
  | some d=>
   rw[hd]at h3;cases d <;>simp[cV]at h3;cases hx with
   | sl0=>exact⟨_,by simp[Builtin.cap_,ht,am hd];rfl,.int _ _⟩
   | sl hn hK hq=>
    have:=hK.1 (av h4);subst this;exact⟨_,by simp[Builtin.cap_,ht,am hd];rfl,.int _ _⟩
   | far=>cases h4
 .cases hv
theorem nh:∀{c:List Value}{o:Nat}{vs r:List Value},ii c o vs=ω r->r=c.take o ++ vs ++ c.drop (o+vs.length)
 | c,o,[],r,h=>by simp[ii]at h;subst h;simp
 | [],o,v :: vs,r,h=>by cases o <;>simp[ii]at h
 | x :: c,0,v :: vs,r,h=>by
  simp only[ii,Option.map_eq_some_iff]at h;obtain⟨r',h1,rfl⟩:=h;rw[nh h1];simp[Nat.add_comm]
 | x :: c,o+1,v :: vs,r,h=>by
  simp only[ii,Option.map_eq_some_iff]at h;obtain⟨r',h1,rfl⟩:=h;rw[nh h1,show o+1+(v :: vs).length=(o+(v :: vs).length)+1 by omega];simp
theorem yG:∀(c:List Value) (o:Nat) (vs r:List Value),ii c o vs=ω r->vs≠[]->o+vs.length<=c.length:=by
 intro c
 induction c with
 | nil=>intro o vs r h hn;cases vs with | nil=>exact absurd rfl hn | cons a b=>cases o <;>simp[ii]at h
 | cons y c ih=>
  intro o vs r h hn;cases vs with
  | nil=>exact absurd rfl hn
  | cons a b=>
   cases o with
   | zero=>
    simp only[ii,Option.map_eq_some_iff]at h;obtain⟨q,h1,_⟩:=h;cases b with
    | nil=>simp
    | cons d e=>have:=ih 0 (d :: e) q h1 (by simp);simp at this⊢;omega
   | succ o=>
    simp only[ii,Option.map_eq_some_iff]at h;obtain⟨q,h1,_⟩:=h;have:=ih o (a :: b) q h1 (by simp);simp at this⊢;omega
theorem gI (off:Nat):∀(l:List Value) (k:Nat) (A:Array Value),off+k+l.length<=A.size->
  ((l.zipIdx k).foldl (λ(cs:Array Value) (p:Value×Nat)=>cs.setIfInBounds (off+p.2) p.1) A).toList=A.toList.take (off+k) ++ l ++ A.toList.drop (off+k+l.length)
 | [],k,A,_=>by simp
 | x :: l,k,A,h=>by
  simp only[List.zipIdx_cons,List.foldl_cons];rw[gI off l (k+1) _ (by simp at h⊢;omega)];simp only[Array.toList_setIfInBounds,List.length_cons];have hlt:off+k<A.toList.length:=by simp at h⊢;omega
  rw[List.set_eq_take_append_cons_drop,if_pos hlt];have e1:(A.toList.take (off+k)).length=off+k:=by rw[List.length_take];omega
  rw[show off+(k+1)=off+k+1 by omega];rw[List.take_append,List.drop_append,e1];rw[List.take_of_length_le (by omega:(A.toList.take (off+k)).length<=off+k+1),List.drop_eq_nil_of_le (by omega:(A.toList.take (off+k)).length<=off+k+1+l.length)];rw[show off+k+1 - (off+k)=0+1 by omega,show off+k+1+l.length - (off+k)=l.length+1 by omega];simp[List.drop_drop];rw[show off+k+(l.length+1)=off+k+1+l.length by omega]
def PS (σ:aM) (ps ps':List (Nat×Value)):Prop:=ps.length=ps'.length/\∀(i:Nat) p p',ps[i]? = ω p->ps'[i]? = ω p'->p.1=p'.1/\VR σ p.2 p'.2
theorem fA {place place':Nat->Option (Nat×Nat)}(hp:∀k x,place k=ω x->place' k=ω x):∀(ps ps':List (Nat×Value)) (cells:List Value) (cells':Array Value){v:Value},
  PS σ ps ps'->bz σ cells cells'.toList->tA place ps cells=ω v->∃c c',v = .agg c/\Instr.fill place' cells' ps' = ω c'/\bz σ c.toList c'.toList
 | [],ps',cells,cells',v,hP,hc,h=>by
  have:ps' = []:=List.eq_nil_of_length_eq_zero (by simpa using hP.1.symm);subst this;have h':ω (Value.agg cells.toArray)=ω v:=h;cases h';exact⟨_,cells',rfl,rfl,by simpa using hc⟩
 | p :: ps,ps',cells,cells',v,hP,hc,h=>by
  cases ps' with
  | nil=>have:=hP.1;simp at this
  | cons p' ps'=>
   obtain⟨hi,hv⟩:=hP.2 0 p p' rfl rfl;have hP':PS σ ps ps':=⟨by have:=hP.1;simpa using this,λi a b x y=>hP.2 (i+1) a b (by simpa using x) (by simpa using y)⟩;have h':Ah place (tA place ps) cells p=ω v:=h;unfold Ah at h'
   split at h'
   .rename_i off size hpl;obtain⟨h1,h2⟩:=ae h';obtain⟨hJ,h1⟩:=ak h1;obtain⟨h3,h4⟩:=ak h1;have h3:=av h3;have h4:=fJ h4
    split at h2
    .rename_i c hset;have hcv:=hv.cells hJ;have hsz:p'.2.cells.size=size:=by have:=hcv.1;simp at this;rw[<-this,<-h3];simp
     have hcs:cells'.size=cells.length:=by have:=hc.1;simp at this;exact this.symm
     obtain⟨i',v'⟩:=p';obtain⟨i0,v0⟩:=p;simp only at hi hv hpl h3 hset hcv hsz;subst hi;have e:=nh hset;have hfold:(v'.cells.zipIdx.foldl (λcs (x:Value×Nat)=>cs.setIfInBounds (off+x.2) x.1) cells').toList=cells'.toList.take off ++ v'.cells.toList ++ cells'.toList.drop (off+v'.cells.toList.length):=by
      have:=gI off v'.cells.toList 0 cells' (by simp[hsz];omega);rw[Nat.add_zero]at this;rw[<-this,<-Array.foldl_toList,Array.toList_zipIdx]
     obtain⟨c1,c',r1,r2,r3⟩:=fA hp ps ps' c (v'.cells.zipIdx.foldl (λcs (x:Value×Nat)=>cs.setIfInBounds (off+x.2) x.1) cells') hP' (by
      rw[hfold,e,<-hcv.1];exact((hc.take off).append hcv).append (hc.drop _)) h2
     refine⟨c1,c',r1,?_,r3⟩;unfold Instr.fill;rw[hp _ _ hpl];simp only;rw[if_neg (by simp[hsz];omega)];exact r2
    .cases h2
   .cases h'
theorem mn {fr:Fr}{ρ:Operand->Value}{ps:Array (Nat×Operand)}(h:∀x∈ps.toList.map (·.2),VR σ (ev fr x) (ρ x)):PS σ (qv fr ps) ((ps.map λ(i,x)=>(i,ρ x)).toList):=by
 unfold qv;refine⟨by simp,λi p p' hp hp'=>?_⟩;rw[List.getElem?_map,Option.map_eq_some_iff]at hp;obtain⟨q,hq,rfl⟩:=hp;rw[Array.toList_map,List.getElem?_map,hq]at hp';simp only[Option.map_some,Option.some.injEq]at hp';subst hp';exact⟨rfl,h q.2 (List.mem_map.2 ⟨q,List.mem_of_getElem? hq,rfl⟩)⟩
theorem yH {fields:List Field}(h:aU (λf=>(P.info? f.type).isSome) fields=true) :
  ∃places,fields.mapM (λf=>(P.info? f.type).map λi=>(f.offset,i.size))=ω places/\∀(k:Nat),places[k]? = (fields[k]?).bind λf=>(P.info? f.type).map λi=>(f.offset,i.size):=by
 induction fields with
 | nil=>exact⟨[],rfl,λk=>by simp⟩
 | cons f fields ih=>
  have hf:=aW h f (by simp);obtain⟨i,hi⟩:=Option.isSome_iff_exists.1 hf;have ht:aU (λf=>(P.info? f.type).isSome) fields=true:=by
   have h':cond (P.info? f.type).isSome (aU (λf=>(P.info? f.type).isSome) fields) false=true:=h;exact(dW h').2
  obtain⟨places,h1,h2⟩:=ih ht;refine⟨(f.offset,i.size) :: places,by simp[List.mapM_cons,hi,h1],λk=>?_⟩;cases k with
  | zero=>simp[hi]
  | succ k=>simpa using h2 k
theorem rR {t:TypeId}{ps:List (Nat×Value)}{ps':Array (Nat×Value)}(hP:PS σ ps ps'.toList){v:Value}(hv:rG P (P.underlying t) (P.info? t) ps=ω v) :
  ∃v',(Instr.build t ps').run P w = .ok v' w/\VR σ v v':=by
 unfold rG at hv
 split at hv
 .rename_i fields i hd hi
  split at hv
  .rename_i z hz;obtain⟨h1,h2⟩:=ae hv;obtain⟨h3,h4⟩:=ak h1;obtain⟨places,hm,hpl⟩:=yH (P:=P) h3;obtain⟨c,c',rfl,hf,hc⟩:=fA (place':=(places.toArray[·]?)) (λk x hx=>by
    unfold fieldAt at hx;simp only[List.getElem?_toArray];rw[hpl k]
    split at hx
    .rename_i f hf
     split at hx
     .rename_i j hj;cases hx;have:fields.toList[k]? = ω f:=by simpa using hf
      simp[this,hj]
     .cases hx
    .cases hx) ps ps'.toList z.cells.toList z.cells hP (by
      have:=(dt (σ:=σ) h4).cells (qA h4);exact this) h2
   refine⟨.agg c',?_,?_⟩
   .refine run_build w t ps' c' ?_;unfold Program.built;rw[hi,hd];simp only[hz,hm];exact hf
   .have:=VR.agg' hc;simpa using this
  .cases hv
 .rename_i n e i hd hi
  split at hv
  .rename_i z j hz hj;obtain⟨h1,h2⟩:=ae hv;obtain⟨c,c',rfl,hf,hc⟩:=fA (place':=λk=>ω (k*j.size,j.size)) (λk x hx=>hx) ps ps'.toList z.cells.toList z.cells hP ((dt (σ:=σ) h1).cells (qA h1)) h2;refine⟨.agg c',?_,?_⟩
   .refine run_build w t ps' c' ?_;unfold Program.built;rw[hi,hd];simp only[hz,hj];exact hf
   .have:=VR.agg' hc;simpa using this
  .cases hv
 .cases hv
end
end Eva
end
section
open Go Go.RowKit
namespace Eva
section
variable {P:Program}{σ:aM}{w:World}
theorem oe:∀(l l':List Value){bs:List UInt8},bz σ l l'->fq l=ω bs->∃ns:List Int,l' = ns.map (Value.int .u8)/\
  ∀s:ByteArray,ns.foldl (λr n=>r.push (UInt8.ofNat n.toNat)) s=⟨(s.data.toList ++ bs).toArray⟩
 | [],l',bs,hl,h=>by
  have:l' = []:=List.eq_nil_of_length_eq_zero (by simpa using hl.1.symm);subst this;simp[fq]at h;subst h;exact⟨[],rfl,λs=>by cases s;simp⟩
 | x :: l,l',bs,hl,h=>by
  cases l' with
  | nil=>have:=hl.1;simp at this
  | cons x' l'=>
   have hx:=hl.2 0 x x' rfl rfl;have hl':bz σ l l':=⟨by have:=hl.1;simpa using this,λi a b p q=>hl.2 (i+1) a b (by simpa using p) (by simpa using q)⟩;unfold fq at h
   split at h
   .rename_i e;cases e
   .rename_i n r e;cases e;rw[Option.map_eq_some_iff]at h;obtain⟨bs',h1,rfl⟩:=h;obtain⟨ns,rfl,h2⟩:=oe l l' hl' h1;cases hx;refine⟨Int.ofNat n :: ns,rfl,λs=>?_⟩;rw[List.foldl_cons,h2]
    congr 1
    apply Array.ext';cases s with
    | mk d=>simp[ByteArray.push]
   .cases h
theorem og {h:AH}(hr:HR P σ h w){n b o m:Nat}(hn:σ n=ω b){l:List Value}(hl:jo h ⟨n,o,ξ⟩ m=ω l) :
  (∃c' e' f',w.heap[b]? = ω (.cells c' e' f')/\o+m<=c'.size/\bz σ l ((c'.toList.drop o).take m))\/(m=0/\l = []):=by
 unfold jo at hl
 split at hl
 .rename_i c e f hs hc;obtain⟨c',f',hb,hp,_,_,_⟩:=iu hr hn hc;rcases hp.cut hl with⟨h1,h2,h3⟩ | ⟨h1,h2⟩
  .exact .inl ⟨c',_,f',hb,by simpa using h3,h1⟩
  .exact .inr ⟨h1,h2⟩
 .cases hl
theorem yI {h:AH}(hr:HR P σ h w){n b o m:Nat}(hn:σ n=ω b){l:List Value}(hl:jo h ⟨n,o,ξ⟩ m=ω l) :
  ∃l',(loadCells ⟨b,o,ξ⟩ m).run P w = .ok l'.toArray w/\bz σ l l':=by
 rcases og hr hn hl with⟨c',e',f',hb,hle,hv⟩ | ⟨rfl,rfl⟩
 .exact⟨_,ng hb hle,hv⟩
 .exact⟨[],rfl,bz.nil σ⟩
theorem tK {h:AH}(hr:HR P σ h w){o:Oper}{fr:Fr}{ρ:Operand->Value}{s d:TypeId}{x:Operand}(ho:o.op = .convert s d x) (hE:yC σ fr ρ o)
  {v:Value}(hv:nP P o fr h s d (ev fr x)=ω v):∃v',(execOp ρ o).run P w = .ok (.value v') w/\VR σ v v':=by
 have hx:VR σ (ev fr x) (ρ x):=hE x (by simp[ho,Op.operands]);have key:∀r:Value,(convert s d (ρ x)).run P w = .ok r w->(execOp ρ o).run P w = .ok (.value r) w:=by
  intro r hr;simp[execOp,ho,hr]
 unfold nP at hv
 split at hv
 .rename_i a len K hex
  split at hv
  .rename_i e hs hd
   split at hv
   .rename_i he
    split at hv
    .rename_i l hl
     split at hv
     .rename_i bs hbs;cases hv;rw[hex]at hx;generalize hρ:ρ x=x' at hx;have conv:∀(a:Option Addr) (l c:Nat),(convert s d (.slice a l c)).run P w=(Conv.bytesToString (.slice a l c)).run P w:=λa l c=>run_convert_bytes_string w s d e a l c hs he hd
      cases hx with
      | sl0=>
       simp[gG]at hl;subst hl;simp[fq]at hbs;subst hbs;refine⟨.string ⟨#[]⟩,key _ ?_,.string _⟩;rw[hρ,conv];rfl
      | @sl n b o' _ _ c hn hK hq=>
       have hrun:∃l',(loadCells ⟨b,o',ξ⟩ len).run P w = .ok l'.toArray w/\bz σ l l':=by
        unfold gG at hl;simp only at hl;cases h0:Nat.beq len 0 with
        | true=>
         rw[h0]at hl;cases hl;have:=av h0;subst this;exact⟨[],rfl,bz.nil σ⟩
        | false=>rw[h0]at hl;exact yI hr hn hl
       obtain⟨l',h1,h2⟩:=hrun;obtain⟨ns,rfl,h3⟩:=oe l l' h2 hbs;refine⟨_,key _ ?_,.string _⟩;rw[hρ,conv,run_bytesToString w _ _ _ ns h1,h3];simp[ByteArray.empty,ByteArray.emptyWithCapacity]
       try rfl
      | @far a' c=>
       simp[gG,Nat.beq_refl]at hl;subst hl;simp[fq]at hbs;subst hbs;refine⟨.string ⟨#[]⟩,key _ ?_,.string _⟩;rw[hρ,conv];rfl
     .cases hv
    .cases hv
   .cases hv
  .cases hv
 .obtain⟨h1,h2⟩:=de (w:=w) (by simp[jq,ho]) hE hv;exact⟨v,h1,h2⟩
theorem pS {t xt:TypeId}{x x' v:Value}{ok:Bool}(hx:VR σ x x') (hv:mY P t x ok=ω v) :
  ∃v',(Instr.typeAssert x' xt t ok).run P w = .ok v' w/\VR σ v v':=by
 unfold mY at hv
 split at hv
 .cases hv
 .rename_i d u y hni hd;obtain⟨h1,h2⟩:=ae hv;have:=av h1;subst this;cases h2;cases hx with
  | iface _ hy=>
   cases ok
   .refine⟨_,?_,hy⟩;cases d <;>first | (exfalso;exact hni _ hd rfl) | (simp[Instr.typeAssert,am hd];done) | (exfalso;simp_all;done) | simp_all[Instr.typeAssert,am hd]
   .refine⟨_,?_,VR.tuple' (bz.cons hy (bz.cons (.bool _) (bz.nil σ)))⟩;cases d <;>first | (exfalso;exact hni _ hd rfl) | (simp[Instr.typeAssert,am hd];done) | (exfalso;simp_all;done) | simp_all[Instr.typeAssert,am hd]
 .cases hv
theorem tL {h:AH}(hr:HR P σ h w){o:Oper}{fr:Fr}{ρ:Operand->Value}{c:Call}(ho:o.op = .call c) (hE:yC σ fr ρ o)
  {v:Value}(hv:nM P o fr h c=ω v):∃v',(execOp ρ o).run P w = .ok (.value v') w/\VR σ v v':=by
 have arg:∀{u:Value},vB c fr=ω u->∃u',c.args.map ρ = #[u']/\VR σ u u':=by
  intro u hu;unfold vB at hu
  split at hu
  .rename_i y hy;cases hu;have:c.args = #[y]:=Array.ext' hy;refine⟨ρ y,by rw[this];simp,hE y ?_⟩;simp[ho,Op.operands,Call.operands,this]
  .cases hu
 have typ:∀{d:TypeDesc},fg P c=ω d->∃t,c.argTypes[0]? = ω t/\fg P c=P.underlying t:=by
  intro d hd;unfold fg at hd⊢
  split at hd
  .rename_i t ts ht;have h0:c.argTypes[0]? = ω t:=by rw[<-Array.getElem?_toList,ht];rfl
   exact⟨t,h0,rfl⟩
  .cases hd
 unfold nM at hv
 split at hv
 .rename_i hb
  split at hv
  .rename_i u hu;obtain⟨u',h1,h2⟩:=arg hu;cases hq:fg P c with
   | none=>
    exfalso;rw[hq]at hv;unfold yv at hv
    split at hv <;>simp[cV,gF]at hv
   | some d=>
    obtain⟨t,ht,e⟩:=typ hq;rw[e]at hv;obtain⟨v',h3,h4⟩:=vH (ty:=o.type) hr ht h2 hv;refine⟨v',?_,h4⟩;simp only[execOp,ho,resolve,hb,h1,Sem.run_bind,Sem.run_pure,Result.andThen_ok,invoke,builtin,h3]
  .cases hv
 .rename_i hb
  split at hv
  .rename_i u hu;obtain⟨u',h1,h2⟩:=arg hu;cases hq:fg P c with
   | none=>
    exfalso;rw[hq]at hv;unfold vA at hv
    split at hv <;>simp[cV,gF]at hv
   | some d=>
    obtain⟨t,ht,e⟩:=typ hq;rw[e]at hv;obtain⟨v',h3,h4⟩:=vI (ty:=o.type) (w:=w) ht h2 hv;refine⟨v',?_,h4⟩;simp only[execOp,ho,resolve,hb,h1,Sem.run_bind,Sem.run_pure,Result.andThen_ok,invoke,builtin,h3]
  .cases hv
 .obtain⟨h1,h2⟩:=de (w:=w) (by simp[jq,ho]) hE hv;exact⟨v,h1,h2⟩
theorem qE {h:AH}(hr:HR P σ h w){o:Oper}{fr:Fr}{ρ:Operand->Value}(hE:yC σ fr ρ o){v:Value}(hv:pK P o fr h=ω v) :
  ∃v',(execOp ρ o).run P w = .ok (.value v') w/\VR σ v v':=by
 have out:∀{s:Sem Value},(∃v',s.run P w = .ok v' w/\VR σ v v')->∃v',(do pure (Next.value (<-s)):Sem Next).run P w = .ok (.value v') w/\VR σ v v':=by
  rintro s ⟨v',h1,h2⟩;exact⟨v',by simp[h1],h2⟩
 unfold pK at hv
 split at hv
 .rename_i x ho;cases hv;exact⟨ρ x,by simp[execOp,ho],hE x (by simp[ho,Op.operands])⟩
 .rename_i c a b ho;have h1:VR σ (ev fr c) (ρ c):=hE c (by simp[ho,Op.operands]);have h2:VR σ (ev fr a) (ρ a):=hE a (by simp[ho,Op.operands]);have h3:VR σ (ev fr b) (ρ b):=hE b (by simp[ho,Op.operands]);unfold Af at hv
  split at hv
  .rename_i t ht;cases hv;rw[ht]at h1;generalize hc:ρ c=c' at h1;cases h1;refine⟨cond t (ρ a) (ρ b),?_,by cases t <;>assumption⟩;cases t <;>simp[execOp,ho,hc,asBool]
  .cases hv
 .rename_i t x ho;obtain⟨v',h1,h2⟩:=mj (P:=P) hr (hE x (by simp[ho,Op.operands])) hv;exact⟨v',by simp[execOp,ho,h1],h2⟩
 .rename_i x ho;exact vE ho (hE x (by simp[ho,Op.operands])) hv
 .rename_i t x ho;obtain⟨v',h1,h2⟩:=rN (w:=w) (hE x (by simp[ho,Op.operands])) hv;exact⟨v',by simp[execOp,ho,h1],h2⟩
 .rename_i fn a b ho;cases hv;refine⟨.func fn (a.map ρ) (b.map ρ),by simp[execOp,ho,Instr.makeFunc],.func fn (by simp) ?_ (by simp) ?_⟩
  .intro i u u' hu hu';rw[Array.getElem?_map,Option.map_eq_some_iff]at hu;obtain⟨y,hy,rfl⟩:=hu;rw[Array.getElem?_map,hy]at hu';cases hu';exact hE y (by simp only[ho,Op.operands];exact Array.mem_append.2 (.inl (Array.mem_of_getElem? hy)))
  .intro i u u' hu hu';rw[Array.getElem?_map,Option.map_eq_some_iff]at hu;obtain⟨y,hy,rfl⟩:=hu;rw[Array.getElem?_map,hy]at hu';cases hu';exact hE y (by simp only[ho,Op.operands];exact Array.mem_append.2 (.inr (Array.mem_of_getElem? hy)))
 .rename_i t x lo hi mx ho;exact rO ho hE hv
 .rename_i s x f ho;obtain⟨v',h1,h2⟩:=lC (w:=w) (hE x (by simp[ho,Op.operands])) hv;exact⟨v',by simp[execOp,ho,h1],h2⟩
 .rename_i s x f ho;obtain⟨v',h1,h2⟩:=rP (w:=w) (hE x (by simp[ho,Op.operands])) hv;exact⟨v',by simp[execOp,ho,h1],h2⟩
 .rename_i s x i ho;obtain⟨v',h1,h2⟩:=lD (w:=w) (hE x (by simp[ho,Op.operands])) (hE i (by simp[ho,Op.operands])) hv;exact⟨v',by simp[execOp,ho,h1],h2⟩
 .rename_i s x i ho;obtain⟨v',h1,h2⟩:=rQ (w:=w) (hE x (by simp[ho,Op.operands])) (hE i (by simp[ho,Op.operands])) hv;exact⟨v',by simp[execOp,ho,h1],h2⟩
 .rename_i x i ho;obtain⟨v',h1,h2⟩:=nY (P:=P) (w:=w) (hE x (by simp[ho,Op.operands])) hv;exact⟨v',by simp[execOp,ho,h1],h2⟩
 .rename_i t x ix ok ho;obtain⟨v',h1,h2⟩:=pR hr (hE x (by simp[ho,Op.operands])) (hE ix (by simp[ho,Op.operands])) hv;exact⟨v',by simp[execOp,ho,h1],h2⟩
 .rename_i op t x y t2 ho;exact vG ho hE hv
 .rename_i c ho;exact tL hr ho hE hv
 .rename_i t ps ho;have hP:PS σ (qv fr ps) ((ps.map λ(i,x)=>(i,ρ x)).toList):=mn λx hx=>hE x (by
   simp only[ho,Op.operands];simpa using hx)
  obtain⟨v',h1,h2⟩:=rR (w:=w) hP hv;exact⟨v',by simp only[execOp,ho,Sem.run_bind,h1,Result.andThen_ok,Sem.run_pure],h2⟩
 .rename_i s d x ho;exact tK hr ho hE hv
 .rename_i x xt t ok ho;obtain⟨v',h1,h2⟩:=pS (xt:=xt) (w:=w) (hE x (by simp[ho,Op.operands])) hv;exact⟨v',by simp[execOp,ho,h1],h2⟩
 .rename_i op t x ho;obtain⟨h1,h2⟩:=de (w:=w) (by simp[jq,ho]) hE hv;exact⟨v,h1,h2⟩
 .cases hv
end
end Eva
end
section
open Go Go.RowKit
namespace Eva
section
variable {P:Program}{σ:aM}{w:World}
def yJ (w:World) (ob:Obj) (w':World):Prop:=w'.heap=w.heap.push ob/\w'.os=w.os/\w'.tape=w.tape/\w'.output=w.output
def aM.put (σ:aM) (n b E:Nat):aM:=⟨λm=>if m=n then ω b else σ m,λx=>if x=b then E else σ.e x⟩
theorem aM.put_same (σ:aM) (n b E:Nat):(σ.put n b E) n=ω b:=by simp[aM.put]
theorem aM.put_ne (σ:aM){n m:Nat}(b E:Nat) (h:m≠n):(σ.put n b E) m=σ m:=by simp[aM.put,h]
theorem aM.put_e (σ:aM) (n b E:Nat):(σ.put n b E).e b=E:=by simp[aM.put]
theorem aM.put_e_ne (σ:aM) (n E:Nat){b c:Nat}(h:c≠b):(σ.put n b E).e c=σ.e c:=by simp[aM.put,h]
theorem AH.get_put (h:AH) (n:Nat) (o:AO):(h.put n o).get n=ω o:=Tr.get_set _ _ _
theorem AH.get_put_ne (h:AH){n m:Nat}(o:AO) (e:n≠m):(h.put n o).get m=h.get m:=Tr.get_set_ne _ _ e
theorem AH.get_del (h:AH) (n:Nat):(h.del n).get n=none:=Tr.get_set _ _ _
theorem AH.get_del_ne (h:AH){n m:Nat}(e:n≠m):(h.del n).get m=h.get m:=Tr.get_set_ne _ _ e
theorem AH.get_new (h:AH) (o:AO):(h.new o).get h.next=ω o:=Tr.get_set _ _ _
theorem AH.get_new_ne (h:AH){m:Nat}(o:AO) (e:h.next≠m):(h.new o).get m=h.get m:=Tr.get_set_ne _ _ e
theorem St.laid {h:AH}(hr:HR P σ h w){ob:AO}{ob':Obj}{w':World}{E:Nat}(hl:yJ w ob' w')
  (ho:∀σ':aM,aM.le σ σ'->σ'.e w.heap.size=E->OR P σ' w.heap.size ob ob') :
  St P σ h w (σ.put h.next w.heap.size E) (h.new ob) w':=by
 obtain⟨e1,e2,e3,e4⟩:=hl;have hn:σ h.next=none:=by
  cases hq:σ h.next with
  | none=>rfl
  | some b=>exact absurd (hr.lt _ _ hq).1 (Nat.lt_irrefl _)
 have hle:aM.le σ (σ.put h.next w.heap.size E):=λn b hb=>by
  have:n≠h.next:=λe=>by rw[e,hn]at hb;cases hb
  have hlt:=(hr.lt n b hb).2;exact⟨by rw[aM.put_ne σ _ _ this];exact hb,aM.put_e_ne σ _ _ U⟩
 have cases_:∀n b,(σ.put h.next w.heap.size E) n=ω b->(n=h.next/\b=w.heap.size)\/(n≠h.next/\σ n=ω b):=λn b hb=>by
  by_cases e:n=h.next
  .subst e;rw[aM.put_same]at hb;cases hb;exact .inl ⟨rfl,rfl⟩
  .rw[aM.put_ne σ _ _ e]at hb;exact .inr ⟨e,hb⟩
 have old:∀b,b<w.heap.size->w'.heap[b]? = w.heap[b]?:=λb hb=>by rw[e1,Array.getElem?_push];simp[Nat.ne_of_lt hb]
 refine⟨hle,⟨λn b hb=>?_,λn b o hb hg=>?_,λn m b o p h1 h2 g1 g2=>?_,λn hn2=>?_⟩,e2,e3,e4,by rw[e1];simp,by simp[AH.new],λn b hb h0=>?_,λn hn2 h0=>?_,λb hb _=>old b hb,λn b c e hb hg=>?_⟩
 .rcases cases_ n b hb with⟨rfl,rfl⟩ | ⟨_,hb⟩
  .exact⟨by simp[AH.new],by rw[e1];simp⟩
  .have:=hr.lt n b hb;exact⟨by simp[AH.new];omega,by rw[e1];simp;omega⟩
 .rcases cases_ n b hb with⟨rfl,rfl⟩ | ⟨hne,hb⟩
  .rw[AH.get_new]at hg;cases hg;exact⟨ob',by rw[e1];simp,ho _ hle (aM.put_e _ _ _ _)⟩
  .rw[AH.get_new_ne h _ (Ne.symm hne)]at hg;obtain⟨o',x,y⟩:=hr.obj n b o hb hg;exact⟨o',by rw[old b (hr.lt n b hb).2];exact x,y.mono hle (hle n b hb).2⟩
 .rcases cases_ n b h1 with⟨rfl,rfl⟩ | ⟨n1,b1⟩
  .rcases cases_ m _ h2 with⟨rfl,_⟩ | ⟨n2,b2⟩
   .rfl
   .exact absurd (hr.lt m _ b2).2 (Nat.lt_irrefl _)
  .rcases cases_ m b h2 with⟨rfl,rfl⟩ | ⟨n2,b2⟩
   .exact absurd (hr.lt n _ b1).2 (Nat.lt_irrefl _)
   .rw[AH.get_new_ne h _ (Ne.symm n1)]at g1;rw[AH.get_new_ne h _ (Ne.symm n2)]at g2;exact hr.inj n m b o p b1 b2 g1 g2
 .rw[AH.get_new_ne h _ (by simp[AH.new]at hn2;omega)];exact hr.none n (by simp[AH.new]at hn2;omega)
 .rcases cases_ n b hb with⟨rfl,rfl⟩ | ⟨_,hb⟩
  .exact⟨Nat.le_refl _,.inl (Nat.le_refl _)⟩
  .rw[h0]at hb;cases hb
 .exact AH.get_new_ne h _ U
 .have hlt:=hr.lt n b hb;exact⟨by rw[AH.get_new_ne h _ U];exact hg,old b hlt.2⟩
theorem dK (w:World) (ob:Obj):yJ w ob { w with heap:=w.heap.push ob }:=⟨rfl,rfl,rfl,rfl⟩
theorem PR.flat_self {l:List Value}(h:aU (λv=>pl v && flat v) l=true):bz σ l l:=
 ⟨rfl,λi v v' a b=>by
  rw[a]at b;cases b;exact dt (ak (aW h v (List.mem_of_getElem? a))).1⟩
theorem OR.of_vrs {l:List Value}{a:Array Value}{e:TypeId}{b:Nat}(h:bz σ l a.toList):∀σ':aM,aM.le σ σ'->σ'.e b=0->OR P σ' b (.cells l e false) (.cells a e):=
 λσ' hle he=>.cells (λi v hv=>by obtain⟨v',h1,h2⟩:=(h.mono hle).get hv;exact⟨v',by simpa using h1,h2⟩) (λ_=>.inl rfl) (λi _=>by rw[he];omega)
def iv (P:Program) (σ:aM) (w:World) (s:Sem Next) (ob:AO) (f:Nat->Value):Prop:=
 ∃v' ob' w' E,s.run P w = .ok (.value v') w'/\yJ w ob' w'/\(∀σ':aM,aM.le σ σ'->σ'.e w.heap.size=E->OR P σ' w.heap.size ob ob')/\
  ∀(σ':aM) n,σ' n=ω w.heap.size->σ'.e w.heap.size=E->VR σ' (f n) v'
theorem dY {z:Value}{n:Nat}(h:fF z n=true):z.cells.toList.length=n/\bz σ z.cells.toList z.cells.toList/\∀v∈z.cells.toList,flat v=true:=by
 unfold fF at h;obtain⟨h1,h2⟩:=ak h;exact⟨av h1,PR.flat_self h2,λv hv=>(ak (aW h2 v hv)).2⟩
theorem Au (l:List Value):dJ 0 l = []:=rfl
theorem tM (n:Nat) (l:List Value):dJ (n+1) l=l ++ dJ n l:=rfl
theorem km (n:Nat) (l:List Value):(dJ n l).length=n*l.length:=by
 induction n with
 | zero=>simp[Au]
 | succ n ih=>rw[tM,List.length_append,ih,Nat.add_mul];omega
theorem kn (l:List Value) (n i:Nat) (h:i<n*l.length):(dJ n l)[i]? = l[i % l.length]?:=by
 induction n generalizing i with
 | zero=>simp at h
 | succ n ih=>
  rw[tM];rcases Nat.lt_or_ge i l.length with hlt | hge
  .rw[List.getElem?_append_left hlt,Nat.mod_eq_of_lt hlt]
  .rw[List.getElem?_append_right hge,ih (i - l.length) (by rw[Nat.add_mul]at h;omega)];rw[Nat.mod_eq_sub_mod hge]
theorem iU (n:Nat) (a:Array Value):((Array.range (n*a.size)).map (λi=>a[i % a.size]!)).toList=dJ n a.toList:=by
 apply List.ext_getElem?;intro i;by_cases h:i<n*a.size
 .have hp:0<a.size:=by
   rcases Nat.eq_zero_or_pos a.size with e | e
   .rw[e]at h;simp at h
   .exact e
  have hm:i % a.size<a.size:=Nat.mod_lt _ hp;rw[kn _ _ _ (by simpa using h)];simp only[Array.toList_map,List.getElem?_map,Array.getElem?_toList];rw[Array.getElem?_eq_getElem (by simpa using h)];simp[hm]
 .rw[List.getElem?_eq_none (by simp;omega),List.getElem?_eq_none (by rw[km];simp;omega)]
theorem eI (ob:Obj):(newObj ob).run P w = .ok w.heap.size { w with heap:=w.heap.push ob }:=rfl
theorem oo {σ':aM}{n b:Nat}(h:σ' n=ω b):VR σ' (xg n) (ψ (ω ⟨b,0,ξ⟩)):=.ptr h
theorem ko {σ':aM}{n b l K c:Nat}(h:σ' n=ω b) (hK:CR K c) (hq:K % 2=1->c<=σ'.e b):VR σ' (mH l K n) (η (ω ⟨b,0,ξ⟩) l c):=.sl h hK (λx _=>hq x)
theorem xp (c:Nat):cx c % 2=1->False:=λh=>by unfold cx at h;omega
theorem rS {o:Oper}{ρ:Operand->Value}{t:TypeId}(ho:o.op = .alloc t){ob:AO}{f:Nat->Value}(h:rH t (P.info? t)=ω (ob,f)):iv P σ w (execOp ρ o) ob f:=by
 unfold rH at h
 split at h
 .rename_i i hi
  split at h
  .rename_i z hz;obtain⟨h1,h2⟩:=ae h;cases h2;obtain⟨_,hv,_⟩:=dY (σ:=σ) h1;refine⟨ψ (ω ⟨w.heap.size,0,ξ⟩),.cells z.cells t,_,0,?_,dK w _,OR.of_vrs hv,λσ' n hn _=>oo hn⟩;simp[execOp,ho,Instr.alloc,dT hi hz,newVar,newRow,eI]
  .cases h
 .cases h
theorem vJ {o:Oper}{ρ:Operand->Value}{t:TypeId}{x:Operand}(ho:o.op = .box t x){u:Value}(hx:VR σ u (ρ x)){ob:AO}{f:Nat->Value}(h:C5 t u=ω (ob,f)) :
  iv P σ w (execOp ρ o) ob f:=by
 unfold C5 at h;obtain⟨h1,h2⟩:=ae h;cases h2;refine⟨ψ (ω ⟨w.heap.size,0,ξ⟩),.cells (ρ x).cells t,_,0,?_,dK w _,OR.of_vrs (hx.cells (mh h1)),λσ' n hn _=>oo hn⟩;simp[execOp,ho,Instr.box,newVar,newRow,eI]
theorem kp {o:Oper}{ρ:Operand->Value}{t:TypeId}{len:Nat}{ps:List (Nat×Value)}{ops:Array (Nat×Operand)}(ho:o.op = .buildSlice t len ops)
  (hP:PS σ ps ((ops.map λ(i,x)=>(i,ρ x)).toList)){ob:AO}{f:Nat->Value}(h:fu P (P.underlying t) len ps=ω (ob,f)):iv P σ w (execOp ρ o) ob f:=by
 unfold fu at h
 split at h
 .rename_i e hd
  split at h
  .rename_i i hi
   split at h
   .rename_i z hz;obtain⟨h1,h2⟩:=ae h;obtain⟨h3,h4⟩:=ak h1;have h3:=du h3;obtain⟨hlen,hv,_⟩:=dY (σ:=σ) h4;have hzs:z.cells.size=i.size:=by simpa using hlen
    unfold qw at h2
    split at h2
    .rename_i c hfill;obtain⟨h5,h6⟩:=ae h2;cases h6;have hrange:bz σ (dJ len z.cells.toList) ((Array.range (len*i.size)).map (λj=>z.cells[j % z.cells.size]!)).toList:=by
      rw[<-hzs,iU];refine⟨rfl,λj u u' a b=>?_⟩;rw[a]at b;cases b;have hj:j<len*z.cells.toList.length:=by rw[<-km];exact(List.getElem?_eq_some_iff.1 a).1
      rw[kn _ _ _ hj]at a;exact hv.2 _ u u a a
     obtain⟨c1,c',he,hf,hc⟩:=fA (place':=λk=>ω (k*i.size,i.size)) (λk x hx=>hx) ps _ _ _ hP hrange hfill;cases he;refine⟨η (ω ⟨w.heap.size,0,ξ⟩) len len,.cells c' e,_,0,?_,dK w _,OR.of_vrs hc,λσ' n hn _=>ko hn (CR.cx _) (λh=>(xp _ h).elim)⟩;have hbig:¬2 ^ 24<len*i.size:=U;by_cases h0:len*i.size=0
     .have hf':Instr.fill (λk=>ω (k*i.size,i.size)) #[] (ops.map λ(i,x)=>(i,ρ x)).toList=ω c':=by
       rw[h0]at hf;rw[show Array.range 0 = #[] from rfl,Array.map_empty]at hf;exact hf
      simp only[execOp,ho,Instr.buildSlice,Sem.run_bind,am hd,Result.andThen_ok,aZ hi,h0,if_true,Sem.run_pure,gt_iff_lt,Nat.not_lt_zero,if_false];simp only[show Array.range 0 = #[] from rfl,Array.map_empty,hf',newRow,Sem.run_bind,eI,Result.andThen_ok,Sem.run_pure]
     .simp only[execOp,ho,Instr.buildSlice,Sem.run_bind,am hd,Result.andThen_ok,aZ hi,h0,if_false,Sem.run_pure,gt_iff_lt,hbig,dT hi hz,hf,newRow,eI]
    .cases h2
   .cases h
  .cases h
 .cases h
theorem vK {o:Oper}{ρ:Operand->Value}{t:TypeId}{r:Option Operand}(ho:o.op = .makeMap t r){fr:Fr}(hr:∀x,r=ω x->VR σ (ev fr x) (ρ x)){ob:AO}{f:Nat->Value}
  (h:C6 (P.underlying t) (r.map (ev fr))=ω (ob,f)):iv P σ w (execOp ρ o) ob f:=by
 have hmap:∀σ':aM,aM.le σ σ'->σ'.e w.heap.size=0->OR P σ' w.heap.size (.map [] 0) (.map #[] 0):=λ_ _ _=>.map rfl (λi k v b h=>by simp at h);unfold C6 at h
 split at h
 .rename_i kt e hd hr0;cases h;have:r=none:=by cases r <;>simp_all
  subst this;exact⟨.map (ω w.heap.size),_,_,0,by simp[execOp,ho,Instr.makeMap,eI],dK w _,hmap,λσ' n hn _=>.map hn⟩
 .rename_i kt e y hd hr0
  split at h
  .rename_i n hn;cases h;cases r with
   | none=>simp at hr0
   | some x=>
    simp at hr0;subst hr0;obtain⟨k,hk⟩:=ce (hr x rfl) hn;exact⟨.map (ω w.heap.size),_,_,0,by simp[execOp,ho,Instr.makeMap,am hd,hk,asInt,asIntOf,eI],dK w _,hmap,λσ' n hn _=>.map hn⟩
  .cases h
 .cases h
theorem oq {n:Nat}(h:n<1000000):IntKind.i64.wrap (n:Int)=n:=by
 exact IntWalk.i64_in _ U
theorem lE {o:Oper}{ρ:Operand->Value}{t:TypeId}{x y:Operand}(ho:o.op = .makeSlice t x y){u v:Value}(hx:VR σ u (ρ x)) (hy:VR σ v (ρ y)){ob:AO}{f:Nat->Value}
  (h:eP P (P.underlying t) (bY u) (bY v)=ω (ob,f)):iv P σ w (execOp ρ o) ob f:=by
 unfold eP at h
 split at h
 .rename_i e l c hd hl hc;obtain⟨k1,e1⟩:=ce hx hl;obtain⟨k2,e2⟩:=ce hy hc;unfold xh at h
  split at h
  .rename_i i hi
   split at h
   .rename_i z hz;obtain⟨h1,h2⟩:=ae h;cases h2;obtain⟨h1,h3⟩:=ak h1;obtain⟨h1,h4⟩:=ak h1;obtain⟨h5,h6⟩:=ak h1;have h4:=du h4;have h5:=fJ h5;have h6:=du h6;obtain⟨hlen,hv,_⟩:=dY (σ:=σ) h3;have hzs:z.cells.size=i.size:=by simpa using hlen
    have wl:IntKind.i64.wrap (l:Int)=l:=oq U;have wc:IntKind.i64.wrap (c:Int)=c:=oq U;have hb:i.bytes*c<=10000*1000000:=Nat.mul_le_mul U U;have hrange:bz σ (dJ c z.cells.toList) ((Array.range (c*i.size)).map (λj=>z.cells[j % z.cells.size]!)).toList:=by
     rw[<-hzs,iU];refine⟨rfl,λj u u' a b=>?_⟩;rw[a]at b;cases b;have hj:j<c*z.cells.toList.length:=by rw[<-km];exact(List.getElem?_eq_some_iff.1 a).1
     rw[kn _ _ _ hj]at a;exact hv.2 _ u u a a
    refine⟨η (ω ⟨w.heap.size,0,ξ⟩) l c,.cells ((Array.range (c*i.size)).map (λj=>z.cells[j % z.cells.size]!)) e,_,0,?_,dK w _,OR.of_vrs hrange,λσ' n hn _=>ko hn (CR.cx _) (λh=>(xp _ h).elim)⟩;have hbi:¬(2 ^ 48:Int)<(i.bytes:Int)*(c:Int):=by
     have:((i.bytes*c:Nat):Int)<=10000000000:=U;rw[Int.natCast_mul]at this;omega
    have htl:((c:Int)<0 || decide ((i.bytes:Int)*(c:Int) > 2 ^ 48))=false:=by simp;omega
    have hcond:¬(((c:Int)<0 || decide ((i.bytes:Int)*(c:Int) > 2 ^ 48))=true\/(l:Int)<0\/(l:Int) > (c:Int)):=by
     rw[htl];simp;omega
    have hroom:(askRoom (c*i.bytes)).run P w = .ok () w:=by
     unfold askRoom roomBytes;have:¬c*i.bytes > 2 ^ 47:=by rw[Nat.mul_comm];omega
     simp[this]
    have hcond':(((c:Int)<0 || decide ((i.bytes:Int)*(c:Int) > 2 ^ 48)) || decide ((l:Int)<0) || decide ((l:Int) > (c:Int)))=false:=by
     rw[htl];simp;omega
    by_cases h0:c*i.size=0
    .have hr0:(Array.range (c*i.size)).map (λj=>z.cells[j % z.cells.size]!) = #[]:=by rw[h0,show Array.range 0 = #[] from rfl,Array.map_empty]
     rw[hr0];simp only[execOp,ho,Instr.makeSlice,Sem.run_bind,am hd,Result.andThen_ok,e1,e2,asInt,asIntOf,Sem.run_pure,gH hi,wl,wc,hcond',Bool.false_eq_true,if_false,Int.toNat_natCast,hroom,aZ hi,h0,if_true];simp only[show Array.range 0 = #[] from rfl,Array.map_empty,newRow,Sem.run_bind,eI,Result.andThen_ok,Sem.run_pure]
    .simp only[execOp,ho,Instr.makeSlice,Sem.run_bind,am hd,Result.andThen_ok,e1,e2,asInt,asIntOf,Sem.run_pure,gH hi,wl,wc,hcond',Bool.false_eq_true,if_false,Int.toNat_natCast,hroom,aZ hi,h0,dT hi hz,newRow,eI]
   .cases h
  .cases h
 .cases h
theorem rT {o:Oper}{ρ:Operand->Value}{s d:TypeId}{x:Operand}(ho:o.op = .convert s d x){u:Value}(hx:VR σ u (ρ x)){ob:AO}{f:Nat->Value}
  (h:rI P (P.underlying s) (P.underlying d) u=ω (ob,f)):iv P σ w (execOp ρ o) ob f:=by
 unfold rI at h
 split at h
 .rename_i e b hs hd
  split at h
  .rename_i i0 he hi0;obtain⟨hs1,h⟩:=ae h;have hs1:=av hs1;cases h;have hρ:ρ x = .string b:=by generalize ρ x=x' at hx;cases hx;rfl
   have hconv:(convert s d (.string b)).run P w=(Conv.stringToBytes e b).run P w:=by simp[convert,am hs,am hd,am he]
   let cap:=(Question.appendCap b.size 0 e).cut (w.tape w.drawn (.appendCap b.size 0 e))
   have hcap:b.size<=cap:=Nat.le_add_right _ _
   let arr:Array Value:=b.data.map (λc=>Value.int .u8 c.toNat) ++ Array.replicate (cap - b.size) (.int .u8 0)
   have hfr:∀(W:World) (n:Nat),W.heap=w.heap.push (.cells arr e)->(freeze ⟨w.heap.size,n,ξ⟩ 1).run P W = .ok () { W with heap:=w.heap.push (.cells arr e (n,n+1)) }:=by
    intro W n hW;have e1:(W.heap.modify w.heap.size fun | .cells c elem (lo,hi)=>.cells c elem (if lo == hi then(n,n+1) else(min lo n,max hi (n+1))) | o=>o)=w.heap.push (.cells arr e (n,n+1)):=by
     rw[hW];apply Array.ext
     .simp
     .intro i h1 h2;rw[Array.getElem_modify];rw[Array.getElem_push,Array.getElem_push];by_cases hi:i<w.heap.size
      .have:¬w.heap.size=i:=U;simp[hi,this]
      .have:w.heap.size=i:=by simp at h2;omega
       simp[this]
    simp only[freeze,Sem.run,World.freeze,Nat.one_ne_zero,if_false]
    congr 2
   refine⟨η (ω ⟨w.heap.size,0,ξ⟩) b.size cap,.cells arr e (arr.size,arr.size+1),{ w with drawn:=w.drawn+1,heap:=w.heap.push (.cells arr e (arr.size,arr.size+1)) },cap,?_,⟨rfl,rfl,rfl,rfl⟩,λσ' hle hE=>?_,λσ' n hn hE=>ko hn (CR.cl hcap) (λ_=>by rw[hE];exact Nat.le_refl _)⟩
   .have hW:=hfr { w with drawn:=w.drawn+1,heap:=w.heap.push (.cells arr e) } arr.size rfl;have hrow:(newRow e arr).run P { w with drawn:=w.drawn+1 } = .ok ⟨w.heap.size,0,ξ⟩ { w with drawn:=w.drawn+1,heap:=w.heap.push (.cells arr e) }:=rfl;have hch:(choose (.appendCap b.size 0 e)).run P w = .ok cap { w with drawn:=w.drawn+1 }:=by
     simp[choose,Sem.run,Question.forced,cap]
    have hmark:(markStringish ⟨w.heap.size,0,ξ⟩).run P { w with drawn:=w.drawn+1,heap:=w.heap.push (.cells arr e) } = .ok () { w with drawn:=w.drawn+1,heap:=w.heap.push (.cells arr e (arr.size,arr.size+1)) }:=by
     have hsh:(shape w.heap.size).run P { w with drawn:=w.drawn+1,heap:=w.heap.push (.cells arr e) } = .ok (ω (e,arr.size)) { w with drawn:=w.drawn+1,heap:=w.heap.push (.cells arr e) }:=by
      simp[shape,Sem.run,World.shape?]
     simp only[markStringish,Sem.run_bind,hsh,Result.andThen_ok];exact hW
    have hsb:(Conv.stringToBytes e b).run P w = .ok (η (ω ⟨w.heap.size,0,ξ⟩) b.size cap) { w with drawn:=w.drawn+1,heap:=w.heap.push (.cells arr e (arr.size,arr.size+1)) }:=by
     simp only[Conv.stringToBytes,Sem.run_bind,hch,Result.andThen_ok];rw[show(b.data.map (λc=>Value.int .u8 c.toNat) ++ Array.replicate (cap - b.size) (Value.int .u8 0))=arr from rfl,hrow];simp only[Result.andThen_ok,hmark,Sem.run_pure]
    simp only[execOp,ho,Sem.run_bind,hρ,hconv,hsb,Result.andThen_ok,Sem.run_pure]
   .refine .cells (λi v hv=>?_) (λ_=>.inr (Nat.le_refl _)) (λi hi=>?_)
    .rw[List.getElem?_map,Option.map_eq_some_iff]at hv;obtain⟨c,hc,rfl⟩:=hv;refine⟨_,?_,.int _ _⟩;have hi:i<b.data.size:=by have:=(List.getElem?_eq_some_iff.1 hc).1;simpa using this
     simp only[arr];rw[Array.getElem?_append_left (by simpa using hi),Array.getElem?_map];rw[<-Array.getElem?_toList,hc];rfl
    .have:arr.size=b.size+(cap - b.size):=by simp[arr]
     have hi1:i.size=1:=by rw[hi0]at hi;cases hi;exact hs1
     rw[hE,hi1,this];omega
  .cases h
 .cases h
theorem rU {o:Oper}{ρ:Operand->Value}{t:TypeId}{x:Operand}(ho:o.op = .range t x){u:Value}(hx:VR σ u (ρ x)){ob:AO}{f:Nat->Value}
  (h:rJ (P.underlying t) u=ω (ob,f)):iv P σ w (execOp ρ o) ob f:=by
 unfold rJ at h
 split at h
 .rename_i s hd;cases h;have hρ:ρ x = .string s:=by generalize ρ x=x' at hx;cases hx;rfl
  refine⟨ψ (ω ⟨w.heap.size,0,ξ⟩),.stringIter s 0,_,0,?_,dK w _,λ_ _ _=>.iter s 0,λσ' n hn _=>oo hn⟩;simp[execOp,ho,Instr.range,hρ,am hd,eI]
 .cases h
theorem qF {o:Oper}{fr:Fr}{ρ:Operand->Value}(hE:yC σ fr ρ o){ob:AO}{f:Nat->Value}(h:yx P o fr=ω (ob,f)):iv P σ w (execOp ρ o) ob f:=by
 unfold yx at h
 split at h
 .rename_i t ho;exact rS ho h
 .rename_i t x ho;exact vJ ho (hE x (by simp[ho,Op.operands])) h
 .rename_i t len ps ho;have hP:PS σ (qv fr ps) ((ps.map λ(i,x)=>(i,ρ x)).toList):=mn λx hx=>hE x (by
   simp only[ho,Op.operands];simpa using hx)
  exact kp ho hP h
 .rename_i t r ho;exact vK ho (λx hx=>hE x (by simp[ho,Op.operands,hx])) h
 .rename_i t l c ho;exact lE ho (hE l (by simp[ho,Op.operands])) (hE c (by simp[ho,Op.operands])) h
 .rename_i s d x ho;exact rT ho (hE x (by simp[ho,Op.operands])) h
 .rename_i t x ho;exact rU ho (hE x (by simp[ho,Op.operands])) h
 .cases h
end
end Eva
end
section
open Go Go.RowKit
namespace Eva
section
variable {P:Program}{σ:aM}{w:World}
structure vL (b:Nat) (w w':World):Prop where
 os:w'.os=w.os
 tape:w'.tape=w.tape
 output:w'.output=w.output
 size:w'.heap.size=w.heap.size
 else_:∀x,x≠b->w'.heap[x]? = w.heap[x]?
theorem St.upd' {h h':AH}(hr:HR P σ h w){n b:Nat}(hn:σ n=ω b){o0:AO}(hg:h.get n=ω o0) (hro:∀c e,o0≠.cells c e true){w':World}{o1:AO}{o':Obj}
  (e1:h'.next=h.next) (e2:h'.get n=ω o1) (e3:∀m,m≠n->h'.get m=h.get m)
  (hs:vL b w w') (hb:w'.heap[b]? = ω o') (ho:OR P σ b o1 o'):St P σ h w σ h' w':=by
 have far:∀m c o,σ m=ω c->h.get m=ω o->m≠n->c≠b:=λm c o h1 h2 h3 e=>h3 (hr.inj m n b o o0 (e ▸ h1) hn h2 hg);refine⟨aM.le_refl σ,⟨λm c x=>by rw[hs.size,e1];exact hr.lt m c x,λm c o x y=>?_,λm k c o p x1 x2 y1 y2=>?_,λm hm=>?_⟩,hs.os,hs.tape,hs.output,by rw[hs.size];exact Nat.le_refl _,by rw[e1];exact Nat.le_refl _,
  (λm c x y=>by rw[y]at x;cases x),λm _ hm=>?_,λc hc hf=>hs.else_ c (λe=>hf n (e ▸ hn)),λm c l e x y=>?_⟩
 .by_cases e:m=n
  .subst e;rw[hn]at x;cases x;rw[e2]at y;cases y;exact⟨o',hb,ho⟩
  .rw[e3 m e]at y;obtain⟨q,q1,q2⟩:=hr.obj m c o x y;exact⟨q,by rw[hs.else_ c (far m c o x y e)];exact q1,q2⟩
 .have g:∀j q,h'.get j=ω q->∃q',h.get j=ω q':=λj q hj=>by
   by_cases e:j=n
   .subst e;exact⟨o0,hg⟩
   .rw[e3 j e]at hj;exact⟨q,hj⟩
  obtain⟨q1,r1⟩:=g m o y1;obtain⟨q2,r2⟩:=g k p y2;exact hr.inj m k c q1 q2 x1 x2 r1 r2
 .rw[e1]at hm;have:m≠n:=λe=>by have:=(hr.lt n b hn).1;subst e;exact absurd hm (Nat.not_le_of_lt this)
  rw[e3 m this];exact hr.none m hm
 .have:m≠n:=λe=>by subst e;rw[hn]at hm;cases hm
  exact e3 m this
 .have hne:m≠n:=λe1=>by subst e1;rw[hg]at y;cases y;exact hro _ _ rfl
  exact⟨by rw[e3 m hne];exact y,hs.else_ c (far m c _ x y hne)⟩
theorem St.upd {h:AH}(hr:HR P σ h w){n b:Nat}(hn:σ n=ω b){o0:AO}(hg:h.get n=ω o0) (hro:∀c e,o0≠.cells c e true){w':World}{o1:AO}{o':Obj}
  (hs:vL b w w') (hb:w'.heap[b]? = ω o') (ho:OR P σ b o1 o'):St P σ h w σ (h.put n o1) w':=
 St.upd' hr hn hg hro rfl (AH.get_put h n o1) (λm hm=>AH.get_put_ne h o1 (Ne.symm hm)) hs hb ho
theorem St.regrow {h:AH}(hr:HR P σ h w){n b:Nat}(hn:σ n=ω b){o0:AO}(hg:h.get n=ω o0) (hro:∀c e,o0≠.cells c e true){w':World}{o1:AO}{o':Obj}
  (hs:vL b w w') (hb:w'.heap[b]? = ω o') (ho:∀σ':aM,aM.le σ σ'->σ'.e b=σ.e b->OR P σ' b o1 o') :
  St P σ h w (σ.put h.next b (σ.e b)) ((h.del n).new o1) w':=by
 have hnn:n≠h.next:=λe=>by have:=(hr.lt n b hn).1;omega
 have h0:σ h.next=none:=by
  cases hq:σ h.next with
  | none=>rfl
  | some c=>exact absurd (hr.lt _ _ hq).1 (Nat.lt_irrefl _)
 have hle:aM.le σ (σ.put h.next b (σ.e b)):=λm c hc=>by
  have:m≠h.next:=λe=>by rw[e,h0]at hc;cases hc
  refine⟨by rw[aM.put_ne σ _ _ this];exact hc,?_⟩;by_cases e:c=b
  .subst e;exact aM.put_e _ _ _ _
  .exact aM.put_e_ne _ _ _ e
 have cases_:∀m c,(σ.put h.next b (σ.e b)) m=ω c->(m=h.next/\c=b)\/(m≠h.next/\σ m=ω c):=λm c hc=>by
  by_cases e:m=h.next
  .subst e;rw[aM.put_same]at hc;cases hc;exact .inl ⟨rfl,rfl⟩
  .rw[aM.put_ne σ _ _ e]at hc;exact .inr ⟨e,hc⟩
 have far:∀m c o,σ m=ω c->h.get m=ω o->m≠n->c≠b:=λm c o h1 h2 h3 e=>h3 (hr.inj m n b o o0 (e ▸ h1) hn h2 hg);have gnew:((h.del n).new o1).get h.next=ω o1:=AH.get_new (h.del n) o1;have gn:((h.del n).new o1).get n=none:=by
  rw[AH.get_new_ne (h.del n) o1 (show(h.del n).next≠n from Ne.symm hnn)];exact AH.get_del h n
 have gelse:∀m,m≠n->m≠h.next->((h.del n).new o1).get m=h.get m:=λm e1 e2=>by
  rw[AH.get_new_ne (h.del n) o1 (show(h.del n).next≠m from Ne.symm e2)];exact AH.get_del_ne h (Ne.symm e1)
 have hnx:((h.del n).new o1).next=h.next+1:=rfl;refine⟨hle,⟨λm c x=>?_,λm c o x y=>?_,λm k c o p x1 x2 y1 y2=>?_,λm hm=>?_⟩,hs.os,hs.tape,hs.output,by rw[hs.size];exact Nat.le_refl _,by rw[hnx];omega,
  λm c x y=>?_,λm hlt hm=>?_,λc hc hf=>hs.else_ c (λe=>hf n (e ▸ hn)),λm c l e x y=>?_⟩
 .rw[hs.size,hnx];rcases cases_ m c x with⟨rfl,rfl⟩ | ⟨_,x⟩
  .exact⟨U,(hr.lt n _ hn).2⟩
  .have:=hr.lt m c x;exact⟨U,this.2⟩
 .rcases cases_ m c x with⟨rfl,rfl⟩ | ⟨e,x⟩
  .rw[gnew]at y;cases y;exact⟨o',hb,ho _ hle (aM.put_e _ _ _ _)⟩
  .by_cases e1:m=n
   .subst e1;rw[gn]at y;cases y
   .rw[gelse m e1 e]at y;obtain⟨q,q1,q2⟩:=hr.obj m c o x y;exact⟨q,by rw[hs.else_ c (far m c o x y e1)];exact q1,q2.mono hle (hle m c x).2⟩
 .rcases cases_ m c x1 with⟨rfl,rfl⟩ | ⟨e1,z1⟩
  .rcases cases_ k _ x2 with⟨rfl,_⟩ | ⟨e2,z2⟩
   .rfl
   .by_cases e3:k=n
    .subst e3;rw[gn]at y2;cases y2
    .rw[gelse k e3 e2]at y2;exact absurd rfl (far k _ p z2 y2 e3)
  .rcases cases_ k c x2 with⟨rfl,rfl⟩ | ⟨e2,z2⟩
   .by_cases e3:m=n
    .subst e3;rw[gn]at y1;cases y1
    .rw[gelse m e3 e1]at y1;exact absurd rfl (far m _ o z1 y1 e3)
   .by_cases e3:m=n
    .subst e3;rw[gn]at y1;cases y1
    .by_cases e4:k=n
     .subst e4;rw[gn]at y2;cases y2
     .rw[gelse m e3 e1]at y1;rw[gelse k e4 e2]at y2;exact hr.inj m k c o p z1 z2 y1 y2
 .rw[hnx]at hm;by_cases e:m=n
  .subst e;exact gn
  .rw[gelse m e U];exact hr.none m U
 .rcases cases_ m c x with⟨rfl,rfl⟩ | ⟨_,x⟩
  .exact⟨Nat.le_refl _,.inr ⟨n,hn⟩⟩
  .rw[y]at x;cases x
 .have:m≠n:=λe=>by subst e;rw[hn]at hm;cases hm
  exact gelse m this U
 .have hne:m≠n:=λe1=>by subst e1;rw[hg]at y;cases y;exact hro _ _ rfl
  have hlt:=(hr.lt m c x).1;exact⟨by rw[gelse m hne U];exact y,hs.else_ c (far m c _ x y hne)⟩
def gJ:Array Value->Nat->List Value->Array Value
 | c,_,[]=>c
 | c,o,v :: r=>gJ (c.setIfInBounds o v) (o+1) r
theorem dZ:∀(vs:List Value) (c:Array Value) (o:Nat),(gJ c o vs).size=c.size
 | [],c,o=>rfl
 | v :: r,c,o=>by rw[gJ,dZ r];simp
theorem iw:∀(vs:List Value) (c:Array Value) (o:Nat),o+vs.length<=c.size->(gJ c o vs).toList=c.toList.take o ++ vs ++ c.toList.drop (o+vs.length)
 | [],c,o,_=>by simp[gJ]
 | v :: r,c,o,h=>by
  rw[gJ,iw r _ _ (by simp at h⊢;omega)];have:=gI o (v :: r) 0 c (by simpa using h);simp only[List.zipIdx_cons,List.foldl_cons,Nat.add_zero,Nat.zero_add]at this;rw[<-this];have h2:=gI (o+1) r 0 (c.setIfInBounds o v) (by simp at h⊢;omega);rw[Nat.add_zero]at h2;rw[<-h2]
  congr 1
  have:∀(l:List Value) (k:Nat) (A:Array Value),(l.zipIdx k).foldl (λ(cs:Array Value) (p:Value×Nat)=>cs.setIfInBounds (o+1+p.2) p.1) A=(l.zipIdx (k+1)).foldl (λ(cs:Array Value) (p:Value×Nat)=>cs.setIfInBounds (o+p.2) p.1) A:=by
   intro l
   induction l with
   | nil=>intro k A;rfl
   | cons x l ih=>intro k A;simp only[List.zipIdx_cons,List.foldl_cons];rw[ih,show o+1+k=o+(k+1) by omega]
  exact this r 0 _
theorem heap_setCell (w:World) (a:Addr) (v:Value):(w.setCell a v).heap.size=w.heap.size:=by simp[World.setCell]
theorem fK (b:Nat):∀(vs:List Value) (o:Nat) (w:World),vL b w (w.setCells b o vs)
 | [],o,w=>⟨rfl,rfl,rfl,rfl,λ_ _=>rfl⟩
 | v :: r,o,w=>by
  have ih:=fK b r (o+1) (w.setCell ⟨b,o,ξ⟩ v);refine⟨ih.os.trans rfl,ih.tape.trans rfl,ih.output.trans rfl,ih.size.trans (heap_setCell _ _ _),λx hx=>(ih.else_ x hx).trans ?_⟩;simp only[World.setCell];rw[Array.getElem?_modify];simp[Ne.symm hx]
theorem iy (b:Nat){e:TypeId}{f:Nat×Nat}:∀(vs:List Value) (o:Nat) (w:World) (c:Array Value),w.heap[b]? = ω (.cells c e f)->
  (w.setCells b o vs).heap[b]? = ω (.cells (gJ c o vs) e f)
 | [],o,w,c,h=>h
 | v :: r,o,w,c,h=>by
  refine iy b r (o+1) _ _ ?_;simp only[World.setCell];rw[Array.getElem?_modify];simp[h]
theorem PR.take {c c':List Value}(h:PR σ c c') (n:Nat):PR σ (c.take n) (c'.take n):=λi v hv=>by
 rw[List.getElem?_take]at hv⊢
 split at hv
 .rename_i hi;simp only[hi,if_true];exact h i v hv
 .cases hv
theorem PR.drop {c c':List Value}(h:PR σ c c') (n:Nat):PR σ (c.drop n) (c'.drop n):=λi v hv=>by
 rw[List.getElem?_drop]at hv⊢;exact h _ v hv
theorem PR.append {a a' b b':List Value}(ha:PR σ a a') (hl:a.length=a'.length) (hb:PR σ b b'):PR σ (a ++ b) (a' ++ b'):=λi v hv=>by
 rcases Nat.lt_or_ge i a.length with hlt | hge
 .rw[List.getElem?_append_left hlt]at hv;rw[List.getElem?_append_left U];exact ha i v hv
 .rw[List.getElem?_append_right hge]at hv;rw[List.getElem?_append_right U,<-hl];exact hb _ v hv
theorem Aw {v v':Value}(h:VR σ v v') (hf:flat v=true):v'.oneCell' = true:=by cases h <;>first | rfl | (simp[flat]at hf;done) | (simp[flat,pQ]at hf)
theorem Eh {vs vs':List Value}(h:bz σ vs vs') (hf:aU flat vs=true):∀v'∈vs',v'.oneCell' = true:=λv' hm=>by
 obtain⟨i,hi,e⟩:=List.getElem_of_mem hm;have h1:vs'[i]? = ω v':=by rw[List.getElem?_eq_getElem hi,e]
 have hi2:i<vs.length:=by rw[h.1];exact hi
 exact Aw (h.2 i _ _ (List.getElem?_eq_getElem hi2) h1) (aW hf _ (List.getElem_mem hi2))
theorem ou {b:Nat}{c:Array Value}{e:TypeId}{f:Nat×Nat}(hb:w.heap[b]? = ω (.cells c e f)) (hf:f.1=f.2\/c.size<=f.1) (o:Nat) (ho:o<c.size):w.frozen? ⟨b,o,ξ⟩=false:=by
 obtain⟨lo,hi⟩:=f;unfold World.frozen?;simp only[hb];simp only at hf;simp;omega
theorem qG {b o:Nat}{c:Array Value}{e:TypeId}{f:Nat×Nat}{vs:List Value}(hb:w.heap[b]? = ω (.cells c e f)) (hf:f.1=f.2\/c.size<=f.1) (hl:o+vs.length<=c.size)
  (h1:∀v∈vs,v.oneCell' = true):(storeCells ⟨b,o,ξ⟩ vs).run P w = .ok () (w.setCells b o vs):=by
 have:=run_storeCells_cells (P:=P) b o vs 0 w (λj hj=>by
  rw[rM hb,Array.getElem?_eq_getElem U];rfl) (λj hj=>ou hb hf _ U) h1
 simpa using this
theorem dv {h h':AH}(hr:HR P σ h w){n b off:Nat}(hn:σ n=ω b){vs vs':List Value}(hv:bz σ vs vs') (hs:da h ⟨n,off,ξ⟩ vs=ω h') :
  (storeCells ⟨b,off,ξ⟩ vs').run P w = .ok () (w.setCells b off vs')/\St P σ h w σ h' (w.setCells b off vs'):=by
 unfold da at hs
 split at hs
 .rename_i c e hsp hg;obtain⟨h1,h2⟩:=ae hs
  split at h2
  .rename_i c1 hset;cases h2;obtain⟨c',f',hb,hp,hf,_,hroom⟩:=iu hr hn (c:=c) (e:=e) (f:=false) (by unfold aY;simp at hg⊢;rw[hg]);have hf:=hf rfl;have e1:=nh hset;have hpl:=hp.le;cases vs with
   | nil=>
    have:vs' = []:=List.eq_nil_of_length_eq_zero (by simpa using hv.1.symm);subst this;refine⟨rfl,?_⟩;have:c1=c:=by rw[e1];simp
    subst this;exact St.upd hr hn hg (λ_ _ e=>by cases e) ⟨rfl,rfl,rfl,rfl,λ_ _=>rfl⟩ hb (.cells (λi v hv=>by obtain⟨v',h1,h2⟩:=hp i v hv;exact⟨v',by simpa using h1,h2⟩) (λ_=>hf) hroom)
   | cons v0 vs=>
    have hfit:=yG c off (v0 :: vs) c1 hset (by simp);have hlen:=hv.1;have hl':off+vs'.length<=c'.size:=by simp at hpl;omega
    refine⟨qG hb hf hl' (Eh hv h1),?_⟩;refine St.upd hr hn hg (λ_ _ e=>by cases e) (fK b vs' off w) (iy b vs' off w c' hb) (.cells (λi v hi=>?_) (λ_=>by rw[dZ];exact hf) (by rw[dZ];exact hroom));have hpr:PR σ c1 (gJ c' off vs').toList:=by
     rw[e1,iw _ _ _ hl',<-hlen];refine PR.append (PR.append (hp.take off) ?_ (PR.of_vrs hv)) ?_ (hp.drop _)
     .simp at hpl⊢;omega
     .simp at hpl hlen⊢;omega
    obtain⟨v',q1,q2⟩:=hpr i v hi;exact⟨v',by simpa using q1,q2⟩
  .cases h2
 .cases hs
end
end Eva
end
end Go.Proofs.YtmbadhdpcdbdbaaGreatDoor
