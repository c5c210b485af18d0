/-
Lemmas for TopEntries. No condition.
-/
import Derived.WalkKit
import Derived.ProofKit
import Derived.Laws.BytesString
import Derived.Laws.Tables
import Derived.IntWalk
import Derived.Laws.IdiomCopy
namespace Go.Proofs.YtaomlhopkfmheaaGreatDoor
set_option linter.unusedVariables false
set_option linter.unusedSimpArgs false
set_option linter.unusedSectionVars false
set_option linter.unnecessarySimpa false
section
open Go Go.RowKit
namespace Eva
inductive Tr (α:Type) where
 | nil
 | node (l:Tr α) (v:Option α) (r:Tr α)
noncomputable section
def Eq {α:Type}(v:Option α) (gl gr:Nat->Option α):Nat->Option α
 | 0=>v
 | k+1=>cond (Nat.beq (k % 2) 0) (gl (k / 2)) (gr (k / 2))
def Tr.get {α:Type}(t:Tr α):Nat->Option α:=
 Tr.rec (motive:=λ_=>Nat->Option α) (λ_=>none) (λ_ v _ gl gr k=>Eq v gl gr k) t
def yb {α:Type}(x:Option α) (ih:Tr α->Nat->Tr α):Nat->Tr α
 | 0=>.node .nil x .nil
 | k+1=>cond (Nat.beq (k % 2) 0) (.node (ih .nil (k / 2)) none .nil) (.node .nil none (ih .nil (k / 2)))
def yc {α:Type}(x:Option α) (ih:Tr α->Nat->Tr α) (l:Tr α) (v:Option α) (r:Tr α):Nat->Tr α
 | 0=>.node l x r
 | k+1=>cond (Nat.beq (k % 2) 0) (.node (ih l (k / 2)) v r) (.node l v (ih r (k / 2)))
def oD {α:Type}(x:Option α) (ih:Tr α->Nat->Tr α) (t:Tr α) (k:Nat):Tr α:=
 match t with
 | .nil=>yb x ih k
 | .node l v r=>yc x ih l v r k
def Tr.setF {α:Type}(x:Option α) (f:Nat):Tr α->Nat->Tr α:=
 Nat.rec (motive:=λ_=>Tr α->Nat->Tr α) (λt _=>t) (λ_ ih t k=>oD x ih t k) f
def Tr.set {α:Type}(t:Tr α) (k:Nat) (x:Option α):Tr α:=Tr.setF x (k+1) t k
inductive AO where
 | cells (c:List Value) (elem:TypeId) (fr:Bool)
 | map (es:List (Value×Value×Nat)) (clock:Nat)
 | iter (s:ByteArray) (pos:Nat)
structure AH where
 next:Nat
 t:Tr AO
def AH.get (h:AH) (n:Nat):Option AO:=h.t.get n
def AH.put (h:AH) (n:Nat) (o:AO):AH:=⟨h.next,h.t.set n (some o)⟩
def AH.del (h:AH) (n:Nat):AH:=⟨h.next,h.t.set n none⟩
def AH.new (h:AH) (o:AO):AH:=⟨h.next+1,h.t.set h.next (some o)⟩
structure Fr where
 n:Nat
 t:Tr Value
def Fr.get (fr:Fr) (d:Nat):Option Value:=fr.t.get d
def Fr.put (fr:Fr) (d:Nat) (v:Value):Fr:=cond (Nat.blt d fr.n) ⟨fr.n,fr.t.set d (some v)⟩ fr
def cd:Option Value->Value
 | some v=>v
 | none=>undef
def ev (fr:Fr):Operand->Value
 | .tmp t=>cd (fr.get t)
 | .const v=>v
 | .global g=>.pointer (some ⟨g,0,none⟩)
 | .func f=>.func (.func f) #[] #[]
def aO {α:Type}(p:α->Bool) (l:List α):Bool:=List.rec (motive:=λ_=>Bool) true (λx _ ih=>cond (p x) ih false) l
def cJ (ih:Value->Bool):Value->Bool
 | .bool _ | .int _ _ | .float _ _ | .complex _ _ _ | .string _ | .nilFunc | .nilIface=>true
 | .pointer none | .slice none 0 0 | .map none | .chan none=>true
 | .func _ f c=>cond (aO ih f.toList) (aO ih c.toList) false
 | .iface _ v=>ih v
 | .agg cs | .tuple cs=>aO ih cs.toList
 | _=>false
def plain (n:Nat):Value->Bool:=Nat.rec (motive:=λ_=>Value->Bool) (λ_=>false) (λ_ ih v=>cJ ih v) n
def pl (v:Value):Bool:=plain 6 v
def oE (ih:Value->Value->Bool):List Value->List Value->Bool
 | [],[]=>true
 | x :: xs,y :: ys=>cond (ih x y) (oE ih xs ys) false
 | _,_=>false
def kr (a b:Addr):Bool:=cond (Nat.beq a.block b.block) (cond (Nat.beq a.off b.off) (match a.spot,b.spot with | none,none=>true | some i,some j=>Nat.beq i j | _,_=>false) false) false
def lE (ih:Value->Value->Bool) (u v:Value):Bool:=
 match u,v with
  | .bool a,.bool b=>a == b
  | .int k a,.int l b=>k == l && a == b
  | .string a,.string b=>a.data.toList == b.data.toList
  | .pointer none,.pointer none=>true
  | .pointer (some a),.pointer (some b)=>kr a b
  | .slice none l c,.slice none m d=>Nat.beq l m && Nat.beq c d
  | .slice (some a) l c,.slice (some b) m d=>kr a b && Nat.beq l m && Nat.beq c d
  | .map none,.map none=>true
  | .map (some a),.map (some b)=>Nat.beq a b
  | .nilFunc,.nilFunc=>true
  | .nilIface,.nilIface=>true
  | .iface t a,.iface s b=>Nat.beq t s && ih a b
  | .agg a,.agg b=>oE ih a.toList b.toList
  | .tuple a,.tuple b=>oE ih a.toList b.toList
  | .func (.func a) f c,.func (.func b) f' c'=>Nat.beq a b && oE ih f.toList f'.toList && oE ih c.toList c'.toList
  | _,_=>false
def eqv (n:Nat):Value->Value->Bool:=Nat.rec (motive:=λ_=>Value->Value->Bool) (λ_ _=>false) (λ_ ih u v=>lE ih u v) n
def au {α:Type}(P:Program) (s:Sem α):Option α:=
 Sem.rec (motive:=λ_=>Option α) (λa=>some a) (λ_ _ _ _=>none) (λ_ _ _ _ _=>none) (λ_ _ _=>none) (λ_ _ _=>none) (λ_ _ _ _=>none)
  (λ_ _ _=>none) (λ_ _ _=>none) (λ_ _ _ _=>none) (λ_ _ _=>none) (λ_ _ _=>none) (λ_ ih=>ih P) (λ_ _ ih=>ih) (λ_=>none) s
def gI:TypeDesc->Bool
 | .struct _ | .array _ _=>true
 | _=>false
def mg (l:List Value) (o n:Nat):Option (List Value):=
 let r:=(l.drop o).take n
 cond (Nat.beq r.length n) (some r) none
def rO (d:TypeDesc) (i:TypeInfo) (c:List Value) (o:Nat):Option Value:=
 cond (gI d) ((mg c o i.size).map λl=>.agg l.toArray) c[o]?
def fP (P:Program) (t:TypeId) (c:List Value) (o:Nat):Option Value:=
 match P.underlying t,P.info? t with
 | some d,some i=>rO d i c o
 | _,_=>none
def gE:List Value->Nat->List Value->Option (List Value)
 | c,_,[]=>some c
 | [],_,_ :: _=>none
 | _ :: c,0,v :: vs=>(gE c 0 vs).map (v :: ·)
 | x :: c,o+1,vs=>(gE c o vs).map (x :: ·)
def flat:Value->Bool
 | .agg _ | .tuple _=>false
 | .chan (some _)=>false
 | _=>true
def oF:Value:=.chan (some 0)
def Cq:Value->Bool
 | .bool _=>false
 | _=>true
def noJ:Value->Bool
 | .chan (some _)=>false
 | _=>true
def aS (h:AH) (n:Nat):Option (List Value×TypeId×Bool):=
 match h.get n with
 | some (.cells c e f)=>some (c,e,f)
 | _=>none
def iM (h:AH) (a:Addr) (n:Nat):Option (List Value):=
 match a.spot,aS h a.block with
 | none,some (c,_,_)=>mg c a.off n
 | _,_=>none
def eL (h:AH) (size n:Nat):Value->Option (List Value)
 | .slice (some a) _ _=>cond (Nat.beq (n*size) 0) (some []) (iM h a (n*size))
 | .slice none _ _=>some []
 | .string s=>some ((s.data.toList.take n).map λb=>.int .u8 b.toNat)
 | _=>none
def yd:Value->Option Nat
 | .slice _ n _=>some n
 | .string s=>some s.size
 | _=>none
def bE:Value->Option Nat
 | .int _ (.ofNat n)=>some n
 | _=>none
def cx (c:Nat):Nat:=2*c
def cl (c:Nat):Nat:=2*c+1
def dS:Value:=.slice (some ⟨0,0,some 0⟩) 0 1
def eM:List Value->Option (List UInt8)
 | []=>some []
 | .int .u8 (.ofNat n) :: r=>(eM r).map (n.toUInt8 :: ·)
 | _=>none
def mh (a:Option Addr) (c low size:Nat):Option Addr:=cond (Nat.beq c low) a (a.map (·.add (low*size)))
def mi (size:Nat) (a:Option Addr) (c low h:Nat):Value:=.slice (mh a c low size) (h - low) (cx (c - low))
def mj (size:Nat) (a:Option Addr) (c low h:Nat):Value:=
 cond (Nat.blt low c) (.slice (a.map (·.add (low*size))) (h - low) (cl (c - low))) dS
def cw (size:Nat) (a:Option Addr) (len K low:Nat) (high max:Option Nat):Option Value:=
 match max with
 | some m=>cond (Nat.ble m (K / 2) && Nat.ble (high.getD len) m && Nat.ble low (high.getD len)) (some (mi size a m low (high.getD len))) none
 | none=>cond (Nat.ble (high.getD len) (K / 2) && Nat.ble low (high.getD len))
   (some (cond (Nat.beq (K % 2) 0) (mi size a (K / 2) low (high.getD len)) (mj size a (K / 2) low (high.getD len)))) none
def gJ (fr:Fr):Option Operand->Option (Option Nat)
 | none=>some none
 | some x=>(bE (ev fr x)).map some
def ml:Option Next->Option Value
 | some (.value v)=>cond (pl v) (some v) none
 | _=>none
def gen (P:Program) (o:Oper) (fr:Fr):Option Value:=
 cond (aO (λx=>pl (ev fr x)) o.op.operands.toList) (ml (au P (execOp (ev fr) o))) none
def ye (c a b:Value):Option Value:=
 match c with
 | .bool t=>some (cond t a b)
 | _=>none
def gB (P:Program) (t:TypeId) (x:Value) (h:AH):Option Value:=
 match x with
 | .pointer (some a)=>match a.spot,aS h a.block with
  | none,some (c,_,_)=>fP P t c a.off
  | _,_=>none
 | _=>none
def AA (x:Value):Option Value:=
 match x with
 | .pointer (some a)=>some (.pointer (some a))
 | .func (.func f) a b=>some (.func (.func f) a b)
 | .iface t v=>some (.iface t v)
 | _=>none
def qe (P:Program) (t:TypeId) (x:Value):Option Value:=
 match P.underlying t with
 | some (.interface _)=>none
 | some _=>some (.iface t x)
 | none=>none
def aE (P:Program) (e:TypeId) (a:Option Addr) (len K:Nat) (l:Option Nat) (hh m:Option Nat):Option Value:=
 match P.info? e with
 | some i=>match a with
  | none=>cond (Nat.beq len 0 && Nat.beq K 0 && Nat.beq (l.getD 0) 0 && Nat.beq (hh.getD 0) 0 && Nat.beq (m.getD 0) 0 && (m.isNone || hh.isSome)) (some (.slice none 0 0)) none
  | some b=>match b.spot with
   | none=>cond (m.isNone || hh.isSome) (cw i.size a len K (l.getD 0) hh m) none
   | some _=>none
 | none=>none
def qf (P:Program) (n:Nat) (e:TypeId) (b:Addr) (l:Option Nat) (hh:Option Nat):Option Value:=
 match P.info? e,b.spot with
 | some i,none=>cw i.size (some b) n (cx n) (l.getD 0) hh none
 | _,_=>none
def tU (P:Program) (o:Oper) (fr:Fr) (d:Option TypeDesc) (x:Value) (lo hi mx:Option (Option Nat)):Option Value:=
 match x with
 | .string _=>gen P o fr
 | .slice a len K=>match d,lo,hi,mx with
  | some (.slice e),some l,some hh,some m=>aE P e a len K l hh m
  | _,_,_,_=>none
 | .pointer (some b)=>match d,lo,hi,mx with
  | some (.array n e),some l,some hh,some none=>qf P n e b l hh
  | _,_,_,_=>none
 | _=>none
def fQ (P:Program) (d:Option TypeDesc) (x:Value) (f:Nat):Option Value:=
 match d,x with
 | some (.struct fields),.pointer (some a)=>match fields[f]?,a.spot with
  | some fd,none=>match P.info? fd.type with
   | some i=>cond (Nat.beq i.size 0) none (some (.pointer (some (a.add fd.offset))))
   | none=>none
  | _,_=>none
 | _,_=>none
def qg (P:Program) (d:Option TypeDesc) (x:Value) (f:Nat):Option Value:=
 match d,x with
 | some (.struct fields),.agg cs=>match fields[f]? with
  | some fd=>fP P fd.type cs.toList fd.offset
  | none=>none
 | _,_=>none
def idx (P:Program) (e:TypeId) (a:Addr) (len i:Nat):Option Value:=
 match P.info? e,a.spot with
 | some inf,none=>cond (Nat.blt i len) (some (.pointer (some (a.add (i*inf.size))))) none
 | _,_=>none
def di (P:Program) (d:Option TypeDesc) (x:Value) (i:Option Nat):Option Value:=
 match d,x,i with
 | some (.slice e),.slice (some a) len _,some i=>idx P e a len i
 | some (.array n e),.pointer (some a),some i=>idx P e a n i
 | _,_,_=>none
def qh (P:Program) (d:Option TypeDesc) (x:Value) (i:Option Nat):Option Value:=
 match d,x,i with
 | some (.array n e),.agg cs,some i=>match P.info? e with
  | some inf=>cond (Nat.blt i n) (fP P e cs.toList (i*inf.size)) none
  | none=>none
 | some .string,.string s,some i=>match s.data.toList[i]? with
  | some b=>some (.int .u8 b.toNat)
  | none=>none
 | _,_,_=>none
def jB (x:Value) (i:Nat):Option Value:=
 match x with
 | .tuple vs=>vs.toList[i]?
 | _=>none
def mo (i:Nat) (v:Value) (more:Option (Option (Nat×Value))):Option Bool->Option (Option (Nat×Value))
 | some true=>some (some (i,v))
 | some false=>more
 | none=>none
def fp (P:Program) (kt:TypeId) (k:Value) (l:List (Value×Value×Nat)):Nat->Option (Option (Nat×Value)):=
 List.rec (motive:=λ_=>Nat->Option (Option (Nat×Value))) (λ_=>cond (pl k) (some none) none)
  (λe _ ih i=>cond (pl k && pl e.1) (mo i e.2.1 (ih (i+1)) (au P (Op.equal kt k e.1))) none) l
def jC (h:AH):Option Nat->Option (List (Value×Value×Nat))
 | none=>some []
 | some n=>match h.get n with
  | some (.map es _)=>some es
  | _=>none
def qi (ok:Bool) (z:Option Value):Option (Option (Nat×Value))->Option Value
 | some (some (_,v))=>some (cond ok (.tuple #[v,.bool true]) v)
 | some none=>match z with
  | some z=>cond (pl z) (some (cond ok (.tuple #[z,.bool false]) z)) none
  | none=>none
 | none=>none
def jD (P:Program) (kt:TypeId) (empty:Bool) (k:Value):Bool:=
 match au P (Instr.checkKey empty 10000 kt k) with
 | some _=>true
 | none=>false
def bz (P:Program) (d:Option TypeDesc) (x k:Value) (ok:Bool) (h:AH):Option Value:=
 match d,x with
 | some (.map kt e),.map r=>match jC h r,P.info? e with
  | some es,some i=>cond (pl k && jD P kt es.isEmpty k) (qi ok i.zero (fp P kt k es 0)) none
  | _,_=>none
 | _,_=>none
def mq:Option TypeDesc->Bool
 | some (.interface _)=>true
 | _=>false
def tV:Option TypeDesc->Bool
 | some (.pointer _)=>true
 | _=>false
def cC:Option TypeDesc->Bool
 | some (.slice _)=>true
 | _=>false
def qj:Option TypeDesc->Bool
 | some (.func _ _ _)=>true
 | _=>false
def fR:Option TypeDesc->Bool
 | some (.map _ _)=>true
 | _=>false
def jE (d:Option TypeDesc) (x y:Value):Bool:=
 match x,y with
 | .iface _ _,.nilIface | .nilIface,.iface _ _=>mq d
 | .pointer (some _),.pointer none | .pointer none,.pointer (some _)=>tV d
 | .slice (some _) _ _,.slice none _ _=>cC d
 | .func _ _ _,.nilFunc=>qj d
 | .map (some _),.map none=>fR d
 | _,_=>false
def yf (op:BinOp) (P:Program) (o:Oper) (fr:Fr):Bool->Option Value
 | true=>match op with
  | .eql=>some (.bool false)
  | .neq=>some (.bool true)
  | _=>none
 | false=>gen P o fr
def pg (op:BinOp) (k:IntKind) (a b:Int) (other:Option Value):Option Value:=
 match op with
 | .add=>some (.int k (k.wrap (a+b)))
 | .sub=>some (.int k (k.wrap (a - b)))
 | .mul=>some (.int k (k.wrap (a*b)))
 | .eql=>some (.bool (a == b))
 | .neq=>some (.bool (a != b))
 | .lss=>some (.bool (decide (a<b)))
 | .leq=>some (.bool (decide (a<=b)))
 | .gtr=>some (.bool (decide (b<a)))
 | .geq=>some (.bool (decide (b<=a)))
 | _=>other
def Cr (P:Program) (op:BinOp) (t:TypeId) (o:Oper) (fr:Fr) (x y:Value):Option Value:=
 match x,y with
 | .int k a,.int l b=>cond (k == l) (pg op k a b (gen P o fr)) (gen P o fr)
 | _,_=>yf op P o fr (jE (P.underlying t) x y)
def qk (h:AH) (r:Nat):Option Value:=
 match h.get r with
 | some (.map es _)=>some (.int .i64 es.length)
 | _=>none
def wB (P:Program) (o:Oper) (fr:Fr) (h:AH) (d:Option TypeDesc) (x:Value):Option Value:=
 match x with
 | .slice _ n _=>cond (cC d) (some (.int .i64 n)) none
 | .map (some r)=>cond (fR d) (qk h r) none
 | .string s=>match d with
  | some .string=>some (.int .i64 s.size)
  | _=>none
 | _=>none
def tW (d:Option TypeDesc) (x:Value):Option Value:=
 match x with
 | .slice _ _ K=>cond (cC d && Nat.beq (K % 2) 0) (some (.int .i64 (K / 2:Nat))) none
 | _=>none
def tX (c:Call) (fr:Fr):Option Value:=
 match c.args.toList with
 | [x]=>some (ev fr x)
 | _=>none
def eD (P:Program) (c:Call):Option TypeDesc:=
 match c.argTypes.toList with
 | t :: _=>P.underlying t
 | []=>none
def mr (P:Program) (o:Oper) (fr:Fr) (h:AH) (c:Call):Option Value:=
 match c.callee with
 | .builtin .len=>match tX c fr with
  | some x=>wB P o fr h (eD P c) x
  | none=>none
 | .builtin .cap=>match tX c fr with
  | some x=>tW (eD P c) x
  | none=>none
 | _=>gen P o fr
def yg (place:Nat->Option (Nat×Nat)) (ih:List Value->Option Value) (cells:List Value) (p:Nat×Value):Option Value:=
 match place p.1 with
 | some (off,size)=>cond (noJ p.2 && (Nat.beq p.2.cells.toList.length size && Nat.ble (off+size) cells.length)) (match gE cells off p.2.cells.toList with
   | some c=>ih c
   | none=>none) none
 | none=>none
def rP (place:Nat->Option (Nat×Nat)) (l:List (Nat×Value)):List Value->Option Value:=
 List.rec (motive:=λ_=>List Value->Option Value) (λcells=>some (.agg cells.toArray)) (λp _ ih cells=>yg place ih cells p) l
def fieldAt (P:Program) (fields:Array Field) (k:Nat):Option (Nat×Nat):=
 match fields[k]? with
 | some f=>match P.info? f.type with
  | some i=>some (f.offset,i.size)
  | none=>none
 | none=>none
def ph (fr:Fr) (ps:Array (Nat×Operand)):List (Nat×Value):=ps.toList.map λp=>(p.1,ev fr p.2)
def yh (P:Program) (fields:Array Field):Bool:=aO (λf=>(P.info? f.type).isSome) fields.toList
def ql (P:Program) (d:Option TypeDesc) (i:Option TypeInfo) (ps:List (Nat×Value)):Option Value:=
 match d,i with
 | some (.struct fields),some i=>match i.zero with
  | some z=>cond (yh P fields && pl z) (rP (fieldAt P fields) ps z.cells.toList) none
  | none=>none
 | some (.array _ e),some i=>match i.zero,P.info? e with
  | some z,some j=>cond (pl z) (rP (λk=>some (k*j.size,j.size)) ps z.cells.toList) none
  | _,_=>none
 | _,_=>none
def fS (h:AH) (a:Option Addr) (len:Nat):Option (List Value):=
 match a with
 | none=>some []
 | some b=>cond (Nat.beq len 0) (some []) (iM h b len)
def ms (P:Program) (o:Oper) (fr:Fr) (h:AH) (s d:TypeId) (x:Value):Option Value:=
 match x with
 | .slice a len _=>match P.underlying s,P.underlying d with
  | some (.slice e),some .string=>match P.underlying e with
   | some (.int .u8)=>match fS h a len with
    | some l=>match eM l with
     | some bs=>some (.string ⟨bs.toArray⟩)
     | none=>none
    | none=>none
   | _=>none
  | _,_=>none
 | _=>gen P o fr
def lT (P:Program) (t:TypeId) (x:Value) (ok:Bool):Option Value:=
 match P.underlying t,x with
 | some (.interface _),_=>none
 | some _,.iface u v=>cond (Nat.beq u t) (some (cond ok (.tuple #[v,.bool true]) v)) none
 | _,_=>none
def evV (P:Program) (o:Oper) (fr:Fr) (h:AH):Option Value:=
 match o.op with
 | .move x=>some (ev fr x)
 | .pick c a b=>ye (ev fr c) (ev fr a) (ev fr b)
 | .load t x=>gB P t (ev fr x) h
 | .nilCheck x=>AA (ev fr x)
 | .makeInterface t x=>qe P t (ev fr x)
 | .makeFunc fn a b=>some (.func fn (a.map (ev fr)) (b.map (ev fr)))
 | .slice t x lo hi mx=>tU P o fr (P.underlying t) (ev fr x) (gJ fr lo) (gJ fr hi) (gJ fr mx)
 | .fieldAddr s x f=>fQ P (P.underlying s) (ev fr x) f
 | .field t x f=>qg P (P.underlying t) (ev fr x) f
 | .indexAddr t x ix=>di P (P.underlying t) (ev fr x) (bE (ev fr ix))
 | .index t x ix=>qh P (P.underlying t) (ev fr x) (bE (ev fr ix))
 | .extract x i=>jB (ev fr x) i
 | .lookup t x ix ok=>bz P (P.underlying t) (ev fr x) (ev fr ix) ok h
 | .binOp op t x y _=>Cr P op t o fr (ev fr x) (ev fr y)
 | .call c=>mr P o fr h c
 | .build t ps=>ql P (P.underlying t) (P.info? t) (ph fr ps)
 | .convert s d x=>ms P o fr h s d (ev fr x)
 | .typeAssert x _ t ok=>lT P t (ev fr x) ok
 | .unOp _ _ _=>gen P o fr
 | _=>none
abbrev Lay:=AO×(Nat->Value)
def vj (n:Nat):Value:=.pointer (some ⟨n,0,none⟩)
def lF (l K n:Nat):Value:=.slice (some ⟨n,0,none⟩) l K
def eX (z:Value) (size:Nat):Bool:=Nat.beq z.cells.toList.length size && aO (λv=>pl v && flat v) z.cells.toList
def rep (n:Nat) (z:List Value):List Value:=Nat.rec (motive:=λ_=>List Value) [] (λ_ ih=>z ++ ih) n
def qm (t:TypeId):Option TypeInfo->Option Lay
 | some i=>match i.zero with
  | some z=>cond (eX z i.size) (some (.cells z.cells.toList t false,vj)) none
  | none=>none
 | none=>none
def AC (t:TypeId) (x:Value):Option Lay:=cond (aO flat x.cells.toList) (some (.cells x.cells.toList t false,vj)) none
def pi (e:TypeId) (len:Nat):Option Value->Option Lay
 | some (.agg c)=>cond (aO flat c.toList) (some (.cells c.toList e false,lF len (cx len))) none
 | _=>none
def eN (P:Program) (d:Option TypeDesc) (len:Nat) (ps:List (Nat×Value)):Option Lay:=
 match d with
 | some (.slice e)=>match P.info? e with
  | some i=>match i.zero with
   | some z=>cond (Nat.blt (len*i.size) 4000 && eX z i.size)
    (pi e len (rP (λk=>some (k*i.size,i.size)) ps (rep len z.cells.toList))) none
   | none=>none
  | none=>none
 | _=>none
def AD (d:Option TypeDesc) (r:Option Value):Option Lay:=
 match d,r with
 | some (.map _ _),none=>some (.map [] 0,λn=>.map (some n))
 | some (.map _ _),some x=>match bE x with
  | some _=>some (.map [] 0,λn=>.map (some n))
  | none=>none
 | _,_=>none
def vk (e:TypeId) (l c:Nat):Option TypeInfo->Option Lay
 | some i=>match i.zero with
  | some z=>cond (Nat.ble l c && Nat.blt c 1000000 && Nat.blt i.bytes 10000 && eX z i.size)
    (some (.cells (rep c z.cells.toList) e false,lF l (cx c))) none
  | none=>none
 | none=>none
def ed (P:Program) (d:Option TypeDesc) (l c:Option Nat):Option Lay:=
 match d,l,c with
 | some (.slice e),some l,some c=>vk e l c (P.info? e)
 | _,_,_=>none
def qn (P:Program) (s d:Option TypeDesc) (x:Value):Option Lay:=
 match s,d,x with
 | some .string,some (.slice e),.string b=>match P.underlying e,P.info? e with
  | some (.int .u8),some i=>cond (Nat.beq i.size 1) (some (.cells (b.data.toList.map λb=>.int .u8 b.toNat) e false,lF b.size (cl b.size))) none
  | _,_=>none
 | _,_,_=>none
def qp (d:Option TypeDesc) (x:Value):Option Lay:=
 match d,x with
 | some .string,.string s=>some (.iter s 0,vj)
 | _,_=>none
def evA (P:Program) (o:Oper) (fr:Fr):Option Lay:=
 match o.op with
 | .alloc t=>qm t (P.info? t)
 | .box t x=>AC t (ev fr x)
 | .buildSlice t len ps=>eN P (P.underlying t) len (ph fr ps)
 | .makeMap t r=>AD (P.underlying t) (r.map (ev fr))
 | .makeSlice t l c=>ed P (P.underlying t) (bE (ev fr l)) (bE (ev fr c))
 | .convert s d x=>qn P (P.underlying s) (P.underlying d) (ev fr x)
 | .range t x=>qp (P.underlying t) (ev fr x)
 | _=>none
def cL (h:AH) (a:Addr) (vs:List Value):Option AH:=
 match a.spot,h.get a.block with
 | none,some (.cells c e false)=>cond (aO flat vs) (match gE c a.off vs with
   | some c'=>some (h.put a.block (.cells c' e false))
   | none=>none) none
 | _,_=>none
def mu (k v:Value):List (Value×Value×Nat)->Nat->List (Value×Value×Nat)
 | [],_=>[]
 | (_,_,b) :: r,0=>(k,v,b) :: r
 | e :: r,i+1=>e :: mu k v r i
def lU (k:Value):Option (Value×Value×Nat)->Bool
 | some e=>Instr.sameBits 10000 e.1 k
 | none=>false
abbrev VH:=Value×AH
def mw (h:AH) (size:Nat) (base:Option Addr) (sl K n:Nat) (new:List Value):Option VH:=
 match base with
 | none=>cond (Nat.beq sl 0 && Nat.beq n 0 && Nat.beq K 0) (some (.slice none 0 0,h)) none
 | some a=>match a.spot with
  | none=>cond (Nat.beq n 0) (some (.slice base sl K,h)) (match cL h (a.add (sl*size)) new with
   | some h'=>some (.slice base (sl+n) K,h')
   | none=>none)
  | some _=>none
def eY (h:AH) (e:TypeId) (size:Nat) (base:Option Addr) (sl K n:Nat) (new:List Value):Option VH:=
 match base with
 | none=>cond (Nat.beq sl 0 && Nat.beq K 0) (some (lF n (cl n) h.next,h.new (.cells new e false))) none
 | some a=>match a.spot,aS h a.block with
  | none,some (c,e0,f)=>match mg c a.off (sl*size) with
   | some old=>cond (Nat.beq (K % 2) 0)
     (some (lF (sl+n) (cl (sl+n)) h.next,h.new (.cells (old ++ new) e false)))
     (cond (Nat.beq a.off 0 && !f && Nat.beq e0 e) (some (lF (sl+n) (cl (sl+n)) h.next,(h.del a.block).new (.cells (old ++ new) e false))) none)
   | none=>none
  | _,_=>none
def fq (i:TypeInfo):Bool:=
 match i.zero with
 | some z=>Nat.beq z.cells.toList.length i.size
 | none=>false
def wC (h:AH) (e:TypeId) (i:TypeInfo) (base:Option Addr) (sl K n:Nat) (new:List Value):Option VH:=
 cond (aO flat new && Nat.blt ((sl+n)*i.bytes) 70000000000000 && Nat.blt (sl+n) 70000000000000 && !(Nat.beq i.size 0) && Nat.beq new.length (n*i.size) && Nat.blt i.bytes 1000000 && fq i)
  (cond (Nat.ble (sl+n) (K / 2)) (mw h i.size base sl K n new) (eY h e i.size base sl K n new)) none
def lV (i:TypeInfo) (e:TypeId) (h:AH) (s:Value) (src:Option (Nat×List Value)):Option VH:=
 match s,src with
 | .slice base sl K,some (n,new)=>wC h e i base sl K n new
 | _,_=>none
def my (h:AH) (size:Nat) (x:Value):Option (Nat×List Value):=
 match yd x with
 | some n=>match eL h size n x with
  | some l=>some (n,l)
  | none=>none
 | none=>none
def lW (i:TypeInfo) (n:Option Nat):Option (Nat×List Value):=
 match i.zero,n with
 | some z,some n=>cond (Nat.blt n 70000000000000 && eX z i.size) (some (n,rep n z.cells.toList)) none
 | _,_=>none
def mz:Option TypeDesc->Bool
 | some (.int _)=>true
 | _=>false
def ai (P:Program) (h:AH) (d d2:Option TypeDesc) (s x:Value):Option VH:=
 match d,d2 with
 | some (.slice e),some t=>match P.info? e with
  | some i=>lV i e h s (cond (mz (some t)) (lW i (bE x)) (my h i.size x))
  | none=>none
 | _,_=>none
def gL (P:Program) (h:AH) (d:Option TypeDesc) (x:Value):Option VH:=
 match d,x with
 | some (.slice e),.slice (some a) n _=>match P.info? e with
  | some i=>match i.zero with
   | some z=>cond (eX z i.size) (cond (Nat.beq n 0) (some (.tuple #[],h)) (match cL h a (rep n z.cells.toList) with
     | some h'=>some (.tuple #[],h')
     | none=>none)) none
   | none=>none
  | none=>none
 | _,_=>none
def tY (h:AH) (base:Option Addr) (l:List Value):Option AH:=
 match base with
 | none=>cond (Nat.beq l.length 0) (some h) none
 | some a=>cond (Nat.beq l.length 0) (some h) (cL h a l)
def iN (P:Program) (h:AH) (d:Option TypeDesc) (x s:Value):Option VH:=
 match d,x,yd s with
 | some (.slice e),.slice base dl _,some sl=>match P.info? e with
  | some i=>match eL h i.size (cond (Nat.ble sl dl) sl dl) s with
   | some l=>match tY h base l with
    | some h'=>some (.int .i64 (cond (Nat.ble sl dl) sl dl:Nat),h')
    | none=>none
   | none=>none
  | none=>none
 | _,_,_=>none
def wD (P:Program) (c:Call):Option TypeDesc:=
 match c.argTypes.toList with
 | _ :: t :: _=>P.underlying t
 | _=>none
def vm (c:Call) (fr:Fr):Option (Value×Value):=
 match c.args.toList with
 | [x,y]=>some (ev fr x,ev fr y)
 | _=>none
def ku (h:AH) (i:Option TypeInfo) (x v:Value):Option VH:=
 match i,x with
 | some i,.pointer (some a)=>cond (Nat.beq v.cells.toList.length i.size) (match cL h a v.cells.toList with
   | some h'=>some (undef,h')
   | none=>none) none
 | _,_=>none
def yi (h:AH) (r:Nat) (es:List (Value×Value×Nat)) (clock:Nat) (k v:Value):Option (Option (Nat×Value))->Option VH
 | some (some (i,_))=>cond (lU k es[i]?) (some (undef,h.put r (.map (mu k v es i) clock))) none
 | some none=>some (undef,h.put r (.map (es ++ [(k,v,clock)]) (clock+1)))
 | none=>none
def fT (P:Program) (h:AH) (d:Option TypeDesc) (m k v:Value):Option VH:=
 match d,m with
 | some (.map kt _),.map (some r)=>match h.get r with
  | some (.map es clock)=>cond (pl k && jD P kt false k) (yi h r es clock k v (fp P kt k es 0)) none
  | _=>none
 | _,_=>none
def vn (P:Program) (h:AH) (s d:TypeId) (x:Value):Option VH:=
 match P.underlying s,P.underlying d,x with
 | some (.slice _),some (.slice e),.slice (some a) n K=>match P.underlying e,a.spot,aS h a.block with
  | some (.int .u8),none,some (_,_,false)=>cond (Nat.beq s d) (some (x,h)) none
  | _,_,_=>none
 | _,_,_=>none
def BU (P:Program) (fr:Fr) (h:AH) (c:Call):Option VH:=
 match c.callee with
 | .builtin .append=>match vm c fr with
  | some (s,x)=>ai P h (eD P c) (wD P c) s x
  | none=>none
 | .builtin .clear=>match tX c fr with
  | some x=>gL P h (eD P c) x
  | none=>none
 | .builtin .copy=>match vm c fr with
  | some (x,s)=>iN P h (eD P c) x s
  | none=>none
 | _=>none
def evL (P:Program) (o:Oper) (fr:Fr) (h:AH):Option VH:=
 match o.op with
 | .assign x=>some (ev fr x,h)
 | .store t x v=>ku h (P.info? t) (ev fr x) (ev fr v)
 | .mapUpdate t m k v=>fT P h (P.underlying t) (ev fr m) (ev fr k) (ev fr v)
 | .insert t m k v=>fT P h (P.underlying t) (ev fr m) (ev fr k) (ev fr v)
 | .convert s d x=>vn P h s d (ev fr x)
 | .call c=>BU P fr h c
 | _=>none
def eZ (P:Program) (g:FuncId):Bool:=
 match P.funcs[g]? with
 | some fn=>fn.body.isSome && !(fn.name == "runtime.NumGoroutine")
 | none=>false
def vo (P:Program) (fr:Fr) (c:Call):Value->Option (FuncId×List Value)
 | .func (.func g) a b=>cond (eZ P g) (some (g,a.toList ++ c.args.toList.map (ev fr) ++ b.toList)) none
 | _=>none
def callee (P:Program) (o:Oper) (fr:Fr):Option (FuncId×List Value):=
 match o.op with
 | .call c=>match c.callee with
  | .value f=>vo P fr c (ev fr f)
  | _=>none
 | _=>none
inductive Out where
 | normal
 | exit (id:Nat)
 | ret
def isB (b:Bool):Option Value->Bool
 | some (.bool c)=>c == b
 | _=>false
def cS (ops:Array Oper) (fr:Fr) (o:Oper):Bool:=
 match o.guard with
 | none=>true
 | some (j,b)=>match ops[j]? with
  | some g=>match g.dst with
   | some d=>isB b (fr.get d)
   | none=>false
  | none=>false
def cT (fr:Fr) (d:Option Tmp) (v:Value):Fr:=
 match d with
 | some d=>fr.put d v
 | none=>fr
inductive Du where
 | val | lay | loud
def aD (P:Program) (o:Oper):Du:=
 match o.op with
 | .alloc _ | .box _ _ | .buildSlice _ _ _ | .makeMap _ _ | .makeSlice _ _ _ | .range _ _=>.lay
 | .convert s d _=>match P.underlying s,P.underlying d with
  | some .string,some (.slice _)=>.lay
  | some (.slice _),some (.slice _)=>.loud
  | _,_=>.val
 | .assign _ | .store _ _ _ | .mapUpdate _ _ _ _ | .insert _ _ _ _=>.loud
 | .call c=>match c.callee with
  | .builtin .append | .builtin .copy | .builtin .clear | .value _=>.loud
  | .builtin _=>.val
  | _=>.loud
 | _=>.val
def bG (P:Program) (o:Oper):Bool:=
 match aD P o with
 | .loud=>true
 | _=>false
def BV (P:Program) (o:Oper):Bool:=
 match aD P o with
 | .val=>true
 | _=>false
abbrev Rec:=FuncId->List Value->AH->Option VH
abbrev FH:=Fr×AH
def yj (fr:Fr) (h:AH) (d:Option Tmp):Option Value->Option FH
 | some v=>some (cT fr d v,h)
 | none=>none
def AE (fr:Fr) (h:AH) (d:Option Tmp):Option Lay->Option FH
 | some (b,f)=>some (cT fr d (f h.next),h.new b)
 | none=>none
def vp (fr:Fr) (d:Option Tmp):Option VH->Option FH
 | some (v,h)=>some (cT fr d v,h)
 | none=>none
def rQ (P:Program) (call:Rec) (o:Oper) (fr:Fr) (h:AH):Option (FuncId×List Value)->Option FH
 | some (g,args)=>vp fr o.dst (call g args h)
 | none=>yj fr h o.dst (gen P o fr)
def kZ (P:Program) (call:Rec) (o:Oper) (fr:Fr) (h:AH):Option VH->Option FH
 | some (v,h')=>some (cT fr o.dst v,h')
 | none=>rQ P call o fr h (callee P o fr)
def opK (P:Program) (call:Rec) (o:Oper) (fr:Fr) (h:AH):Du->Option FH
 | .val=>yj fr h o.dst (evV P o fr h)
 | .lay=>AE fr h o.dst (evA P o fr)
 | .loud=>kZ P call o fr h (evL P o fr h)
def dT:Operand->Bool
 | .const v=>pl v
 | .global _=>false
 | _=>true
def bB (o:Oper):Bool:=aO dT o.op.operands.toList
def iO (o:Oper):Bool:=
 match o.op with
 | .select _ _=>false
 | _=>true
def op1 (P:Program) (call:Rec) (ops:Array Oper) (o:Oper) (fr:Fr) (h:AH):Option FH:=
 cond (cS ops fr o) (cond (bB o) (opK P call o fr h (aD P o)) none) (some (cT fr o.dst undef,h))
def ip (k:Fr->AH->Option FH):Option FH->Option FH
 | some (fr,h)=>k fr h
 | none=>none
def ee (P:Program) (call:Rec) (ops:Array Oper) (l:List Oper):Fr->AH->Option FH:=
 List.rec (motive:=λ_=>Fr->AH->Option FH) (λfr h=>some (fr,h)) (λo _ ih fr h=>ip ih (op1 P call ops o fr h)) l
def bC (o:Oper):List Nat:=(o.after.toList.filter λe=>Region.binds .any e).map (·.on)
def mem (x:Nat) (l:List Nat):Bool:=List.rec (motive:=λ_=>Bool) false (λy _ ih=>cond (Nat.beq x y) true ih) l
def anc (ops:Array Oper):Nat->Nat->List Nat
 | 0,_=>[]
 | f+1,j=>match ops[j]? with
  | some o=>(bC o) ++ (bC o).flatMap (anc ops f)
  | none=>[]
def ready (ops:Array Oper) (taken:List Nat) (j:Nat):Bool:=
 match ops[j]? with
 | some o=>aO (λx=>mem x taken) (bC o)
 | none=>false
def qq (P:Program) (ops:Array Oper) (taken:List Nat) (j:Nat):Bool:=
 cond (ready ops taken j) (match ops[j]? with | some o=>!bG P o | none=>false) false
def pj (P:Program) (ops:Array Oper) (x:Nat):Bool:=
 match ops[x]? with
 | some o=>BV P o
 | none=>false
def cU (j:Nat) (l:List Nat):List Nat:=l.filter λx=>!(Nat.beq x j)
def plan (P:Program) (ops:Array Oper):Nat->List Nat->List Nat->Option (List (Nat×List Nat))
 | _,_,[]=>some []
 | 0,_,_ :: _=>none
 | f+1,taken,rest=>
  match rest.find? (qq P ops taken) with
  | some j=>(plan P ops f (j :: taken) (cU j rest)).map ((j,[]) :: ·)
  | none=>match rest.filter (ready ops taken) with
   | [j]=>(plan P ops f (j :: taken) (cU j rest)).map
     ((j,taken.filter λx=>!(mem x (anc ops 12 j)) && pj P ops x) :: ·)
   | _=>none
def yk (o:Oper) (x:Oper) (ops:Array Oper):Bool:=
 match o.dst with
 | some d=>!(x.looksAt ops).contains d && x.dst != some d
 | none=>true
def rR (P:Program) (ops:Array Oper) (j:Nat) (o:Oper) (i:Nat):Bool:=
 match ops[i]? with
 | some x=>bG P x || x.apart ops o || (mem i (bC o) && (bG P o || yk o x ops))
 | none=>false
def iY (P:Program) (ops:Array Oper) (before:List Nat) (j:Nat):Bool:=
 match ops[j]? with
 | some o=>before.all (rR P ops j o) && (bG P o || match o.dst with | some d=>!(o.looksAt ops).contains d | none=>true)
 | none=>false
def lone (P:Program) (ops:Array Oper):List Nat->List Nat->Bool
 | _,[]=>true
 | before,j :: l=>iY P ops before j && lone P ops (j :: before) l
def looks (P:Program):Op->Bool
 | .load _ _ | .lookup _ _ _ _=>true
 | .convert s d _=>match P.underlying s,P.underlying d with
  | some (.slice _),some .string=>true
  | _,_=>false
 | .call c=>match c.callee with
  | .builtin .len=>fR (eD P c)
  | _=>false
 | _=>false
def iP:Op->Bool
 | .assign _=>true
 | _=>false
def yl (fr:Fr) (d:Option Tmp):Option Value->Bool
 | some v=>match d with
  | some d=>match fr.get d with
   | some u=>eqv 6 u v
   | none=>false
  | none=>true
 | none=>false
def ce (P:Program) (ops:Array Oper) (fr:Fr) (h:AH) (j:Nat):Bool:=
 match ops[j]? with
 | some o=>cond (looks P o.op) (cond (cS ops fr o) (yl fr o.dst (evV P o fr h)) true) true
 | none=>false
def agn (ops:Array Oper) (fr:Fr) (o:Oper) (again:List Nat):List Nat:=cond (cS ops fr o && !(iP o.op)) again []
def wE (P:Program) (ops:Array Oper) (again:List Nat) (k:Fr->AH->Option FH):Option FH->Option FH
 | some (fr,h)=>cond (aO (ce P ops fr h) again) (k fr h) none
 | none=>none
def cG (P:Program) (call:Rec) (ops:Array Oper) (j:Nat) (again:List Nat) (k:Fr->AH->Option FH) (fr:Fr) (h:AH):Option FH:=
 match ops[j]? with
 | some o=>wE P ops (agn ops fr o again) k (op1 P call ops o fr h)
 | none=>none
def drawn (P:Program) (call:Rec) (ops:Array Oper) (l:List (Nat×List Nat)):Fr->AH->Option FH:=
 List.rec (motive:=λ_=>Fr->AH->Option FH) (λfr h=>some (fr,h)) (λp _ ih fr h=>cG P call ops p.1 p.2 ih fr h) l
def fa (P:Program) (ops:Array Oper):Option (List (Nat×List Nat)):=
 match plan P ops ops.size [] (List.range ops.size) with
 | some l=>cond (lone P ops [] (l.map (·.1))) (some l) none
 | none=>none
def AF (P:Program) (t:TypeId) (h:AH) (x:Value) (more:Option (List Value)):Option (List Value):=
 match gB P t x h,more with
 | some v,some vs=>some (v :: vs)
 | _,_=>none
def iZ (P:Program) (fr:Fr) (h:AH):List ResultVar->Option (List Value)
 | []=>some []
 | .tmp t :: l=>(iZ P fr h l).map (cd (fr.get t) :: ·)
 | .cell a t :: l=>AF P t h (cd (fr.get a)) (iZ P fr h l)
def one:List Value->Value
 | [v]=>v
 | vs=>.tuple vs.toArray
def frame:Nat->List Value->Tr Value->Tr Value
 | _,[],t=>t
 | i,v :: l,t=>frame (i+1) l (t.set i (some v))
abbrev R:=Option (Out×Fr×AH)
def mA (h:AH):Option (List Value)->Option VH
 | some vs=>some (one vs,h)
 | none=>none
def rS (P:Program) (fn:Func):R->Option VH
 | some (.normal,fr,h)=>mA h (iZ P fr h fn.results.toList)
 | some (.ret,fr,h)=>mA h (iZ P fr h fn.results.toList)
 | _=>none
def vq (P:Program) (rc:Code->Fr->AH->R) (fn:Func) (args:List Value) (h:AH):Option VH:=
 match fn.body with
 | some c=>cond (Nat.ble args.length fn.ntmps) (rS P fn (rc c ⟨fn.ntmps,frame 0 args .nil⟩ h)) none
 | none=>none
def calls (P:Program) (rc:Code->Fr->AH->R) (f:FuncId) (args:List Value) (h:AH):Option VH:=
 match P.funcs[f]? with
 | some fn=>vq P rc fn args h
 | none=>none
def nor:Option FH->R
 | some (fr,h)=>some (.normal,fr,h)
 | none=>none
def Dv (P:Program) (rc:Code->Fr->AH->R) (ops:Array Oper) (fr:Fr) (h:AH):Bool->R
 | true=>match fa P ops with
  | some l=>nor (drawn P (calls P rc) ops l fr h)
  | none=>none
 | false=>nor (ee P (calls P rc) ops ops.toList fr h)
def gF (k:Fr->AH->R):R->R
 | some (.normal,fr,h)=>k fr h
 | r=>r
def gN (id:Nat):R->R
 | some (.exit i,fr,h)=>cond (Nat.beq i id) (some (.normal,fr,h)) (some (.exit i,fr,h))
 | r=>r
def mB (a b:Unit->R):Value->R
 | .bool true=>a ()
 | .bool false=>b ()
 | _=>none
def ym (P:Program) (rc:Code->Fr->AH->R) (c:Code) (fr:Fr) (h:AH):R:=
 match c with
 | .skip=>some (.normal,fr,h)
 | .label _=>some (.normal,fr,h)
 | .region _ ops d=>Dv P rc ops fr h d
 | .seq a b=>gF (rc b) (rc a fr h)
 | .cond x a b=>cond (dT x) (mB (λ_=>rc a fr h) (λ_=>rc b fr h) (ev fr x)) none
 | .block id b=>gN id (rc b fr h)
 | .loop b=>gF (rc (.loop b)) (rc b fr h)
 | .exit id=>some (.exit id,fr,h)
 | .scope b=>rc b fr h
 | .ret=>some (.ret,fr,h)
 | _=>none
def code (P:Program) (n:Nat):Code->Fr->AH->R:=
 Nat.rec (motive:=λ_=>Code->Fr->AH->R) (λ_ _ _=>none) (λ_ ih c fr h=>ym P ih c fr h) n
end
end Eva
end
section
open Go Go.RowKit
namespace Eva
theorem Tr.get_nil {α:Type}(k:Nat):(Tr.nil:Tr α).get k=none:=rfl
theorem Tr.get_zero {α:Type}(l r:Tr α) (v:Option α):(Tr.node l v r).get 0=v:=rfl
theorem Tr.get_succ {α:Type}(l r:Tr α) (v:Option α) (k:Nat):(Tr.node l v r).get (k+1)=cond (Nat.beq (k % 2) 0) (l.get (k / 2)) (r.get (k / 2)):=rfl
theorem Tr.setF_succ {α:Type}(x:Option α) (f:Nat) (t:Tr α) (k:Nat):Tr.setF x (f+1) t k=oD x (Tr.setF x f) t k:=rfl
theorem Tr.get_setF_same {α:Type}{x:Option α}:∀(f:Nat) (t:Tr α) (k:Nat),k<f->(Tr.setF x f t k).get k=x:=by
 intro f
 induction f with
 | zero=>intro t k h;omega
 | succ f ih=>
  intro t k h
  rw[Tr.setF_succ]
  cases t with
  | nil=>
   cases k with
   | zero=>rfl
   | succ k=>
    have h2:=ih .nil (k / 2) (by omega)
    cases hb:Nat.beq (k % 2) 0 <;>simp only[oD,yb,hb,cond_true,cond_false,Tr.get_succ] <;>exact h2
  | node l v r=>
   cases k with
   | zero=>rfl
   | succ k=>
    have h2:=ih l (k / 2) (by omega)
    have h3:=ih r (k / 2) (by omega)
    cases hb:Nat.beq (k % 2) 0 <;>simp only[oD,yc,hb,cond_true,cond_false,Tr.get_succ] <;>assumption
theorem Tr.get_setF_ne {α:Type}{x:Option α}:∀(f:Nat) (t:Tr α) (k j:Nat),k≠j->(Tr.setF x f t k).get j=t.get j:=by
 intro f
 induction f with
 | zero=>intro t k j h;rfl
 | succ f ih=>
  intro t k j h
  rw[Tr.setF_succ]
  cases t with
  | nil=>
   cases k with
   | zero=>
    cases j with
    | zero=>exact absurd rfl h
    | succ j=>cases hb:Nat.beq (j % 2) 0 <;>simp[oD,yb,Tr.get_succ,Tr.get_nil,hb]
   | succ k=>
    cases j with
    | zero=>cases hb:Nat.beq (k % 2) 0 <;>simp[oD,yb,Tr.get_zero,Tr.get_nil,hb]
    | succ j=>
     have h2:k / 2≠j / 2\/k % 2≠j % 2:=by omega
     cases hb:Nat.beq (k % 2) 0 <;>cases hc:Nat.beq (j % 2) 0 <;>simp only[oD,yb,hb,hc,cond_true,cond_false,Tr.get_succ,Tr.get_nil]
     ·have e1:=Nat.ne_of_beq_eq_false hb;have e2:=Nat.ne_of_beq_eq_false hc
      rw[ih _ _ _ (by omega)];rfl
     ·have e1:=Nat.eq_of_beq_eq_true hb;have e2:=Nat.eq_of_beq_eq_true hc
      rw[ih _ _ _ (by omega)];rfl
  | node l v r=>
   cases k with
   | zero=>
    cases j with
    | zero=>exact absurd rfl h
    | succ j=>cases hb:Nat.beq (j % 2) 0 <;>simp[oD,yc,Tr.get_succ,hb]
   | succ k=>
    cases j with
    | zero=>cases hb:Nat.beq (k % 2) 0 <;>simp[oD,yc,Tr.get_zero,hb]
    | succ j=>
     have h2:k / 2≠j / 2\/k % 2≠j % 2:=by omega
     cases hb:Nat.beq (k % 2) 0 <;>cases hc:Nat.beq (j % 2) 0 <;>simp only[oD,yc,hb,hc,cond_true,cond_false,Tr.get_succ]
     ·have e1:=Nat.ne_of_beq_eq_false hb;have e2:=Nat.ne_of_beq_eq_false hc
      rw[ih _ _ _ (by omega)]
     ·have e1:=Nat.eq_of_beq_eq_true hb;have e2:=Nat.eq_of_beq_eq_true hc
      rw[ih _ _ _ (by omega)]
theorem Tr.get_set {α:Type}(t:Tr α) (k:Nat) (x:Option α):(t.set k x).get k=x:=Tr.get_setF_same _ _ _ (Nat.lt_succ_self k)
theorem Tr.get_set_ne {α:Type}(t:Tr α){k j:Nat}(x:Option α) (h:k≠j):(t.set k x).get j=t.get j:=Tr.get_setF_ne _ _ _ _ h
structure Ren where
 b:Nat->Option Nat
 e:Nat->Nat
instance:CoeFun Ren (λ_=>Nat->Option Nat):=⟨Ren.b⟩
def CR (K c:Nat):Prop:=(K % 2=0->c=K / 2)/\(K % 2=1->K / 2<=c)
theorem CR.cx (c:Nat):CR (cx c) c:=⟨λ_=>by unfold Eva.cx;omega,λh=>by unfold Eva.cx at h;omega⟩
theorem CR.cl {c d:Nat}(h:c<=d):CR (cl c) d:=⟨λh=>by unfold Eva.cl at h;omega,λ_=>by unfold Eva.cl;omega⟩
theorem CR.le {K c:Nat}(h:CR K c):K / 2<=c:=by
 rcases Nat.mod_two_eq_zero_or_one K with e | e
 ·rw[h.1 e];omega
 ·exact h.2 e
inductive VR (σ:Ren):Value->Value->Prop
 | bool (b:Bool):VR σ (.bool b) (.bool b)
 | int (k:IntKind) (n:Int):VR σ (.int k n) (.int k n)
 | float (k:FloatKind) (n:Nat):VR σ (.float k n) (.float k n)
 | complex (k:FloatKind) (a b:Nat):VR σ (.complex k a b) (.complex k a b)
 | string (s:ByteArray):VR σ (.string s) (.string s)
 | ptr0:VR σ (.pointer none) (.pointer none)
 | ptr {n b o:Nat}:σ n=some b->VR σ (.pointer (some ⟨n,o,none⟩)) (.pointer (some ⟨b,o,none⟩))
 | sl0:VR σ (.slice none 0 0) (.slice none 0 0)
 | sl {n b o len K c:Nat}:σ n=some b->CR K c->(K % 2=1->o=0->c<=σ.e b)->VR σ (.slice (some ⟨n,o,none⟩) len K) (.slice (some ⟨b,o,none⟩) len c)
 | far {a:Addr}{c:Nat}:VR σ dS (.slice (some a) 0 c)
 | map0:VR σ (.map none) (.map none)
 | map {n b:Nat}:σ n=some b->VR σ (.map (some n)) (.map (some b))
 | chan0:VR σ (.chan none) (.chan none)
 | any (v:Value):Cq v=true->VR σ oF v
 | func (fn:Fn){f f' c c':Array Value}:f.size=f'.size->(∀(i:Nat) v v',f[i]? = some v->f'[i]? = some v'->VR σ v v')->
   c.size=c'.size->(∀(i:Nat) v v',c[i]? = some v->c'[i]? = some v'->VR σ v v')->VR σ (.func fn f c) (.func fn f' c')
 | nilFunc:VR σ .nilFunc .nilFunc
 | iface (t:TypeId){v v':Value}:VR σ v v'->VR σ (.iface t v) (.iface t v')
 | nilIface:VR σ .nilIface .nilIface
 | agg {c c':Array Value}:c.size=c'.size->(∀(i:Nat) v v',c[i]? = some v->c'[i]? = some v'->VR σ v v')->VR σ (.agg c) (.agg c')
 | tuple {c c':Array Value}:c.size=c'.size->(∀(i:Nat) v v',c[i]? = some v->c'[i]? = some v'->VR σ v v')->VR σ (.tuple c) (.tuple c')
def Ren.le (σ σ':Ren):Prop:=∀n b,σ n=some b->σ' n=some b/\σ'.e b=σ.e b
theorem VR.mono {σ σ':Ren}(h:Ren.le σ σ'){v v':Value}(hv:VR σ v v'):VR σ' v v':=by
 induction hv with
 | bool b=>exact .bool b
 | int k n=>exact .int k n
 | float k n=>exact .float k n
 | complex k a b=>exact .complex k a b
 | string s=>exact .string s
 | ptr0=>exact .ptr0
 | ptr e=>exact .ptr (h _ _ e).1
 | sl0=>exact .sl0
 | sl e k q=>exact .sl (h _ _ e).1 k (by rw[(h _ _ e).2];exact q)
 | far=>exact .far
 | map0=>exact .map0
 | map e=>exact .map (h _ _ e).1
 | chan0=>exact .chan0
 | any v hv=>exact .any v hv
 | func fn a _ b _ ih1 ih2=>exact .func fn a ih1 b ih2
 | nilFunc=>exact .nilFunc
 | iface t _ ih=>exact .iface t ih
 | nilIface=>exact .nilIface
 | agg a _ ih=>exact .agg a ih
 | tuple a _ ih=>exact .tuple a ih
def VRs (σ:Ren) (l l':List Value):Prop:=l.length=l'.length/\∀(i:Nat) v v',l[i]? = some v->l'[i]? = some v'->VR σ v v'
theorem VRs.nil (σ:Ren):VRs σ [] []:=⟨rfl,λi v v' h=>by simp at h⟩
theorem VRs.cons {σ:Ren}{v v':Value}{l l':List Value}(h:VR σ v v') (hl:VRs σ l l'):VRs σ (v :: l) (v' :: l'):=by
 refine⟨by simp[hl.1],λi u u' hu hu'=>?_⟩
 cases i with
 | zero=>simp at hu hu';subst hu;subst hu';exact h
 | succ i=>simp at hu hu';exact hl.2 i u u' hu hu'
theorem VRs.mono {σ σ':Ren}(h:Ren.le σ σ'){l l':List Value}(hl:VRs σ l l'):VRs σ' l l':=⟨hl.1,λi v v' a b=>(hl.2 i v v' a b).mono h⟩
theorem VRs.append {σ:Ren}{l l' m m':List Value}(hl:VRs σ l l') (hm:VRs σ m m'):VRs σ (l ++ m) (l' ++ m'):=by
 refine⟨by simp[hl.1,hm.1],λi u u' hu hu'=>?_⟩
 rcases Nat.lt_or_ge i l.length with hlt | hge
 ·rw[List.getElem?_append_left hlt]at hu
  rw[List.getElem?_append_left (by rw[<-hl.1];exact hlt)]at hu'
  exact hl.2 i u u' hu hu'
 ·rw[List.getElem?_append_right hge]at hu
  rw[List.getElem?_append_right (by rw[<-hl.1];exact hge),<-hl.1]at hu'
  exact hm.2 _ u u' hu hu'
theorem VRs.drop {σ:Ren}{l l':List Value}(hl:VRs σ l l') (n:Nat):VRs σ (l.drop n) (l'.drop n):=
 ⟨by simp[hl.1],λi u u' hu hu'=>hl.2 (n+i) u u' (by rw[List.getElem?_drop]at hu;exact hu) (by rw[List.getElem?_drop]at hu';exact hu')⟩
theorem VRs.take {σ:Ren}{l l':List Value}(hl:VRs σ l l') (n:Nat):VRs σ (l.take n) (l'.take n):=by
 refine⟨by simp[hl.1],λi u u' hu hu'=>?_⟩
 rw[List.getElem?_take]at hu hu'
 by_cases h:i<n
 ·simp[h]at hu hu';exact hl.2 i u u' hu hu'
 ·simp[h]at hu
theorem VRs.get {σ:Ren}{l l':List Value}(hl:VRs σ l l'){i:Nat}{v:Value}(h:l[i]? = some v):∃v',l'[i]? = some v'/\VR σ v v':=by
 have hi:i<l'.length:=by rw[<-hl.1];exact(List.getElem?_eq_some_iff.1 h).1
 exact⟨l'[i],List.getElem?_eq_getElem hi,hl.2 i v _ h (List.getElem?_eq_getElem hi)⟩
theorem VRs.of_map {σ:Ren}{α:Type}(l:List α) (f g:α->Value) (h:∀x∈l,VR σ (f x) (g x)):VRs σ (l.map f) (l.map g):=by
 induction l with
 | nil=>exact VRs.nil σ
 | cons x l ih=>exact VRs.cons (h x (by simp)) (ih λy hy=>h y (by simp[hy]))
theorem VR.agg' {σ:Ren}{l l':List Value}(h:VRs σ l l'):VR σ (.agg l.toArray) (.agg l'.toArray):=
 .agg (by simp[h.1]) (λi v v' a b=>h.2 i v v' (by simpa using a) (by simpa using b))
theorem VR.tuple' {σ:Ren}{l l':List Value}(h:VRs σ l l'):VR σ (.tuple l.toArray) (.tuple l'.toArray):=
 .tuple (by simp[h.1]) (λi v v' a b=>h.2 i v v' (by simpa using a) (by simpa using b))
theorem VR.cells {σ:Ren}{v v':Value}(h:VR σ v v') (hJ:noJ v=true):VRs σ v.cells.toList v'.cells.toList:=by
 cases h with
 | agg a b=>exact⟨by simpa[Value.cells]using a,λi u u' hu hu'=>b i u u' (by simpa[Value.cells]using hu) (by simpa[Value.cells]using hu')⟩
 | any v hv=>exact absurd hJ (by simp[noJ,oF])
 | _=>exact VRs.cons (by constructor <;>assumption) (VRs.nil σ)
theorem aQ {α:Type}{p:α->Bool}:∀{l:List α},aO p l=true->∀x∈l,p x=true
 | [],_,x,hx=>by cases hx
 | y :: l,h,x,hx=>by
  have h':cond (p y) (aO p l) false=true:=h
  cases hp:p y with
  | false=>rw[hp]at h';cases h'
  | true=>
   rw[hp]at h'
   cases hx with
   | head=>exact hp
   | tail _ hm=>exact aQ h' x hm
theorem ld {u:Value}(h:aO flat u.cells.toList=true):noJ u=true:=by
 unfold noJ
 split
 ·rename_i c
  have:=aQ h (.chan (some c)) (by simp[Value.cells])
  simp[flat]at this
 ·rfl
theorem dy {a b:Bool}(h:cond a b false=true):a=true/\b=true:=by cases a <;>cases b <;>simp_all
theorem yp {σ:Ren}:∀(n:Nat){v v':Value},plain n v=true->VR σ v v'->v' = v:=by
 intro n
 induction n with
 | zero=>intro v v' h;cases h
 | succ n ih=>
  intro v v' h hv
  have h':cJ (plain n) v=true:=h
  have rows:∀{c c':Array Value},aO (plain n) c.toList=true->c.size=c'.size->(∀(i:Nat) v v',c[i]? = some v->c'[i]? = some v'->VR σ v v')->c' = c:=by
   intro c c' hp hs hx
   apply Array.ext hs.symm
   intro i h1 h2
   have a:c[i]? = some c[i]:=Array.getElem?_eq_getElem h2
   have b:c'[i]? = some c'[i]:=Array.getElem?_eq_getElem h1
   exact ih (aQ hp _ (Array.mem_toList_iff.2 (Array.getElem_mem h2))) (hx i _ _ a b)
  cases hv with
  | ptr e=>simp[cJ]at h'
  | sl e k q=>simp[cJ]at h'
  | far=>simp[cJ,dS]at h'
  | map e=>simp[cJ]at h'
  | any v hv=>simp[cJ,oF]at h'
  | func fn a b c d=>
   simp only[cJ]at h'
   obtain⟨h1,h2⟩:=dy h'
   rw[rows h1 a b,rows h2 c d]
  | iface t hw=>simp only[cJ]at h';rw[ih h' hw]
  | agg a b=>simp only[cJ]at h';rw[rows h' a b]
  | tuple a b=>simp only[cJ]at h';rw[rows h' a b]
  | _=>rfl
theorem qr:∀(n:Nat){v:Value},plain n v=true->noJ v=true:=by
 intro n v h
 unfold noJ
 split
 ·rename_i c
  cases n with
  | zero=>cases h
  | succ n=>
   have h':cJ (plain n) (.chan (some c))=true:=h
   simp[cJ]at h'
 ·rfl
theorem pk {v:Value}(h:pl v=true):noJ v=true:=qr 6 h
theorem tZ {σ:Ren}:∀(n:Nat){v:Value},plain n v=true->VR σ v v:=by
 intro n
 induction n with
 | zero=>intro v h;cases h
 | succ n ih=>
  intro v h
  have h':cJ (plain n) v=true:=h
  have rows:∀{c:Array Value},aO (plain n) c.toList=true->∀(i:Nat) v v',c[i]? = some v->c[i]? = some v'->VR σ v v':=by
   intro c hp i v v' h1 h2
   rw[h1]at h2;cases h2
   exact ih (aQ hp _ (Array.mem_toList_iff.2 (Array.mem_of_getElem? h1)))
  unfold cJ at h'
  split at h'
  ·exact .bool _
  ·exact .int _ _
  ·exact .float _ _
  ·exact .complex _ _ _
  ·exact .string _
  ·exact .nilFunc
  ·exact .nilIface
  ·exact .ptr0
  ·exact .sl0
  ·exact .map0
  ·exact .chan0
  ·obtain⟨h1,h2⟩:=dy h';exact .func _ rfl (rows h1) rfl (rows h2)
  ·exact .iface _ (ih h')
  ·exact .agg rfl (rows h')
  ·exact .tuple rfl (rows h')
  ·exact absurd h' (by simp)
theorem rT {σ:Ren}{v v':Value}(h:pl v=true) (hv:VR σ v v'):v' = v:=yp 6 h hv
theorem cV {σ:Ren}{v:Value}(h:pl v=true):VR σ v v:=tZ 6 h
inductive OR (P:Program) (σ:Ren) (b:Nat):AO->Obj->Prop
 | cells {c:List Value}{c':Array Value}{e:TypeId}{fr:Bool}{f':Nat×Nat} :
   (∀(i:Nat) v,c[i]? = some v->∃v',c'[i]? = some v'/\VR σ v v')->
   (fr=false->f'.1=f'.2\/c'.size<=f'.1)->(∀i,P.info? e=some i->σ.e b*i.size<=c'.size)->OR P σ b (.cells c e fr) (.cells c' e f')
 | map {es:List (Value×Value×Nat)}{es':Array MapEntry}{clock:Nat}:es.length=es'.size->
   (∀(i:Nat) k v b,es[i]? = some (k,v,b)->∃e',es'[i]? = some e'/\VR σ k e'.key/\VR σ v e'.val/\e'.born=b)->OR P σ b (.map es clock) (.map es' clock)
 | iter (s:ByteArray) (pos:Nat):OR P σ b (.iter s pos) (.stringIter s pos)
theorem OR.mono {P:Program}{σ σ':Ren}{b:Nat}(h:Ren.le σ σ') (hb:σ'.e b=σ.e b){o:AO}{o':Obj}(ho:OR P σ b o o'):OR P σ' b o o':=by
 cases ho with
 | cells x y z=>exact .cells (λi v hv=>let ⟨v',p,q⟩:=x i v hv;⟨v',p,q.mono h⟩) y (by rw[hb];exact z)
 | map x y=>exact .map x (λi k v b' hv=>let ⟨e',p,q,r,t⟩:=y i k v b' hv;⟨e',p,q.mono h,r.mono h,t⟩)
 | iter s p=>exact .iter s p
structure HR (P:Program) (σ:Ren) (h:AH) (w:World):Prop where
 lt:∀n b,σ n=some b->n<h.next/\b<w.heap.size
 obj:∀n b o,σ n=some b->h.get n=some o->∃o',w.heap[b]? = some o'/\OR P σ b o o'
 inj:∀n m b o p,σ n=some b->σ m=some b->h.get n=some o->h.get m=some p->n=m
 none:∀n,h.next<=n->h.get n = .none
structure St (P:Program) (σ:Ren) (h:AH) (w:World) (σ':Ren) (h':AH) (w':World):Prop where
 ext:Ren.le σ σ'
 hr:HR P σ' h' w'
 os:w'.os=w.os
 tape:w'.tape=w.tape
 output:w'.output=w.output
 size:w.heap.size<=w'.heap.size
 next:h.next<=h'.next
 new:∀n b,σ' n=some b->σ n=none->h.next<=n/\(w.heap.size<=b\/∃m,σ m=some b)
 keep:∀n,n<h.next->σ n=none->h'.get n=h.get n
 frame:∀b,b<w.heap.size->(∀n,σ n≠some b)->w'.heap[b]? = w.heap[b]?
 ro:∀n b c e,σ n=some b->h.get n=some (.cells c e true)->h'.get n=some (.cells c e true)/\w'.heap[b]? = w.heap[b]?
theorem Ren.le_refl (σ:Ren):Ren.le σ σ:=λ_ _ e=>⟨e,rfl⟩
theorem Ren.le_trans {σ σ' σ'':Ren}(a:Ren.le σ σ') (b:Ren.le σ' σ''):Ren.le σ σ'':=λn c e=>⟨(b n c (a n c e).1).1,(b n c (a n c e).1).2.trans (a n c e).2⟩
theorem St.refl {P:Program}{σ:Ren}{h:AH}{w:World}(hr:HR P σ h w):St P σ h w σ h w:=
 ⟨Ren.le_refl σ,hr,rfl,rfl,rfl,Nat.le_refl _,Nat.le_refl _,(λn b a c=>by rw[c]at a;cases a),λ_ _ _=>rfl,λ_ _ _=>rfl,λ_ _ _ _ _ a=>⟨a,rfl⟩⟩
theorem St.trans {P:Program}{σ σ' σ'':Ren}{h h' h'':AH}{w w' w'':World}(a:St P σ h w σ' h' w') (b:St P σ' h' w' σ'' h'' w''):St P σ h w σ'' h'' w'' where
 ext:=Ren.le_trans a.ext b.ext
 hr:=b.hr
 os:=b.os.trans a.os
 tape:=b.tape.trans a.tape
 output:=b.output.trans a.output
 size:=Nat.le_trans a.size b.size
 next:=Nat.le_trans a.next b.next
 new:=λn c e0 e1=>by
  cases e2:σ' n with
  | none=>
   obtain⟨x,y⟩:=b.new n c e0 e2
   refine⟨Nat.le_trans a.next x,?_⟩
   rcases y with y | ⟨m,hm⟩
   ·exact .inl (Nat.le_trans a.size y)
   ·cases e3:σ m with
    | none=>exact(a.new m c hm e3).2
    | some d=>have:=(a.ext m d e3).1;rw[hm]at this;cases this;exact .inr ⟨m,e3⟩
  | some d=>
   have:=(b.ext n d e2).1
   rw[e0]at this;cases this
   exact a.new n c e2 e1
 keep:=λn hn e=>by
  have e2:σ' n=none:=by
   cases e3:σ' n with
   | none=>rfl
   | some d=>exact absurd (a.new n d e3 e).1 (by omega)
  rw[b.keep n (Nat.lt_of_lt_of_le hn a.next) e2,a.keep n hn e]
 frame:=λc hc hf=>by
  have hf':∀n,σ' n≠some c:=λn e=>by
   cases e3:σ n with
   | none=>
    rcases(a.new n c e e3).2 with x | ⟨m,hm⟩
    ·omega
    ·exact hf m hm
   | some d=>have:=(a.ext n d e3).1;rw[e]at this;cases this;exact hf n e3
  rw[b.frame c (Nat.lt_of_lt_of_le hc a.size) hf',a.frame c hc hf]
 ro:=λn c l e hn hg=>by
  obtain⟨x,y⟩:=a.ro n c l e hn hg
  obtain⟨z,t⟩:=b.ro n c l e (a.ext n c hn).1 x
  exact⟨z,t.trans y⟩
theorem HR.drawn {P:Program}{σ:Ren}{h:AH}{w w':World}(hr:HR P σ h w) (e:w'.heap=w.heap):HR P σ h w':=
 ⟨λn b x=>by rw[e];exact hr.lt n b x,λn b o x y=>by rw[e];exact hr.obj n b o x y,hr.inj,hr.none⟩
end Eva
end
section
open Go Go.RowKit
namespace Eva
section
variable {P:Program}{σ:Ren}{w:World}
theorem am {t:TypeId}{d:TypeDesc}(h:P.underlying t=some d):(underlying t).run P w = .ok d w:=run_underlying h w
theorem fU {t:TypeId}{i:TypeInfo}(h:P.info? t=some i):(typeInfo t).run P w = .ok i w:=by
 simp[typeInfo,program,Sem.run,h]
theorem aT {t:TypeId}{i:TypeInfo}(h:P.info? t=some i):(sizeOf t).run P w = .ok i.size w:=by
 simp[sizeOf,fU h]
theorem dv {t:TypeId}{i:TypeInfo}{z:Value}(h:P.info? t=some i) (hz:i.zero=some z):(zeroValue t).run P w = .ok z w:=by
 simp[zeroValue,fU h,hz]
theorem iq {t:TypeId}{d:TypeDesc}(h:P.underlying t=some d):(isAgg t).run P w = .ok (gI d) w:=by
 cases d <;>simp[isAgg,am h,gI]
theorem eP {α:Type}:∀(s:Sem α){a:α},au P s=some a->s.run P w = .ok a w:=by
 intro s
 induction s with
 | pure a=>intro b h;have h':some a=some b:=h;cases h';rfl
 | program k ih=>intro b h;exact ih P h
 | mark m k ih=>intro b h;exact ih h
 | _=>intro b h;exact absurd h (by intro h';cases h')
theorem bj (b o j:Nat):(⟨b,o,none⟩:Addr).add j=⟨b,o+j,none⟩:=by unfold Addr.add;split <;>simp_all
theorem aq {a b:Nat}(h:Nat.beq a b=true):a=b:=Nat.eq_of_beq_eq_true h
theorem ae {α:Type}{c:Bool}{x:Option α}{y:α}(h:cond c x none=some y):c=true/\x=some y:=by cases c <;>simp_all
theorem wF {l r:List Value}{o n:Nat}(h:mg l o n=some r):r=(l.drop o).take n/\r.length=n:=by
 unfold mg at h
 obtain⟨h1,h2⟩:=ae h
 cases h2
 exact⟨rfl,aq h1⟩
def PR (σ:Ren) (c c':List Value):Prop:=∀(i:Nat) v,c[i]? = some v->∃v',c'[i]? = some v'/\VR σ v v'
theorem PR.of_vrs {c c':List Value}(h:VRs σ c c'):PR σ c c':=λi v hv=>h.get hv
theorem PR.le {c c':List Value}(h:PR σ c c'):c.length<=c'.length:=by
 rcases Nat.lt_or_ge c'.length c.length with hlt | hge
 ·obtain⟨v',h1,_⟩:=h c'.length c[c'.length] (List.getElem?_eq_getElem hlt)
  rw[List.getElem?_eq_none (Nat.le_refl _)]at h1;cases h1
 ·exact hge
theorem PR.cut {c c' r:List Value}{o n:Nat}(h:PR σ c c') (hr:mg c o n=some r):VRs σ r ((c'.drop o).take n)/\r.length=n/\o+n<=c'.length\/(n=0/\r = []):=by
 obtain⟨e1,e2⟩:=wF hr
 rcases Nat.eq_zero_or_pos n with rfl | hn
 ·exact .inr ⟨rfl,List.eq_nil_of_length_eq_zero e2⟩
 ·refine .inl ?_
  have hl:o+n<=c.length:=by
   rw[e1]at e2;simp at e2;omega
  have hle:=h.le
  refine⟨⟨by rw[e2];simp;omega,λi v v' hv hv'=>?_⟩,e2,by omega⟩
  have hi:i<n:=by rw[<-e2];exact(List.getElem?_eq_some_iff.1 hv).1
  rw[e1,List.getElem?_take]at hv
  rw[List.getElem?_take]at hv'
  simp only[hi,if_true,List.getElem?_drop]at hv hv'
  obtain⟨u,hu,hr'⟩:=h _ _ hv
  rw[hu]at hv';cases hv'
  exact hr'
theorem qs {b:Nat}{c':Array Value}{e:TypeId}{f:Nat×Nat}(hb:w.heap[b]? = some (.cells c' e f)) (o:Nat):w.cell? ⟨b,o,none⟩=c'[o]?:=by
 unfold World.cell?
 simp[hb]
theorem lX {b o n:Nat}{c':Array Value}{e:TypeId}{f:Nat×Nat}(hb:w.heap[b]? = some (.cells c' e f)) (hn:o+n<=c'.size) :
  (loadCells ⟨b,o,none⟩ n).run P w = .ok ((c'.toList.drop o).take n).toArray w:=by
 have hl:((c'.toList.drop o).take n).length=n:=by simp;omega
 have:=run_loadCells_list (P:=P) w ⟨b,o,none⟩ ((c'.toList.drop o).take n) (λj v hv=>by
  rw[bj,qs hb]
  rw[List.getElem?_take]at hv
  split at hv
  ·rw[List.getElem?_drop]at hv;simpa using hv
  ·cases hv)
 rw[hl]at this
 exact this
theorem mC {b o:Nat}:(loadCells ⟨b,o,none⟩ 0).run P w = .ok #[] w:=rfl
theorem rU {t:TypeId}{c:List Value}{o:Nat}{v:Value}{b:Nat}{c':Array Value}{e:TypeId}{f:Nat×Nat}
  (h:fP P t c o=some v) (hr:PR σ c c'.toList) (hb:w.heap[b]? = some (.cells c' e f)) :
  ∃v',(loadVar t ⟨b,o,none⟩).run P w = .ok v' w/\VR σ v v':=by
 unfold fP at h
 split at h
 ·rename_i d i hd hi
  unfold rO at h
  cases ha:gI d with
  | true=>
   rw[ha]at h
   simp only[cond_true,Option.map_eq_some_iff]at h
   obtain⟨r,hr1,rfl⟩:=h
   rcases hr.cut hr1 with⟨hv,hl,hle⟩ | ⟨h0,rfl⟩
   ·refine⟨_,?_,VR.agg' hv⟩
    simp only[loadVar,Sem.run_bind,iq hd,ha,Result.andThen_ok,if_true,aT hi,lX hb (by simpa using hle),Sem.run_pure]
   ·refine⟨.agg #[],?_,VR.agg' (VRs.nil σ)⟩
    simp only[loadVar,Sem.run_bind,iq hd,ha,Result.andThen_ok,if_true,aT hi,h0,mC,Sem.run_pure]
  | false=>
   rw[ha]at h
   simp only[cond_false]at h
   obtain⟨v',h1,h2⟩:=hr _ _ h
   refine⟨v',?_,h2⟩
   have hc:w.cell? ⟨b,o,none⟩=some v':=by rw[qs hb];simpa using h1
   simp[loadVar,iq hd,ha,load,Sem.run,hc]
 ·cases h
theorem lf {t:TypeId}{c:List Value}{o:Nat}{v:Value}{c':Array Value}
  (h:fP P t c o=some v) (hr:PR σ c c'.toList):∃v',(part t c' o).run P w = .ok v' w/\VR σ v v':=by
 unfold fP at h
 split at h
 ·rename_i d i hd hi
  unfold rO at h
  cases ha:gI d with
  | true=>
   rw[ha]at h
   simp only[cond_true,Option.map_eq_some_iff]at h
   obtain⟨r,hr1,rfl⟩:=h
   have hx:c'.extract o (o+i.size)=((c'.toList.drop o).take i.size).toArray:=by
    apply Array.ext'
    simp[List.extract_eq_take_drop,List.drop_take]
   rcases hr.cut hr1 with⟨hv,hl,hle⟩ | ⟨h0,rfl⟩
   ·refine⟨_,?_,VR.agg' hv⟩
    simp only[part,Sem.run_bind,iq hd,ha,Result.andThen_ok,if_true,aT hi,Sem.run_pure,hx]
   ·refine⟨.agg #[],?_,VR.agg' (VRs.nil σ)⟩
    rw[h0]at hx
    simp only[part,Sem.run_bind,iq hd,ha,Result.andThen_ok,if_true,aT hi,Sem.run_pure,h0,hx,List.take_zero]
  | false=>
   rw[ha]at h
   simp only[cond_false]at h
   obtain⟨v',h1,h2⟩:=hr _ _ h
   refine⟨v',?_,h2⟩
   have hc:c'[o]? = some v':=by simpa using h1
   simp[part,iq hd,ha,hc]
 ·cases h
def OkE (σ:Ren) (fr:Fr) (ρ:Operand->Value) (o:Oper):Prop:=∀x∈o.op.operands,VR σ (ev fr x) (ρ x)
theorem cN {o:Oper}{fr:Fr}{ρ:Operand->Value}{v:Value}(hs:iO o=true) (hE:OkE σ fr ρ o) (h:gen P o fr=some v) :
  (execOp ρ o).run P w = .ok (.value v) w/\VR σ v v:=by
 unfold gen at h
 obtain⟨h1,h2⟩:=ae h
 have hx:=aQ h1
 have he:execOp ρ o=execOp (ev fr) o:=execOp_congr o (λcs b e=>by simp[iO,e]at hs) λx hm=>by
  exact rT (hx x (Array.mem_toList_iff.2 hm)) (hE x hm)
 rw[he]
 unfold ml at h2
 split at h2
 ·rename_i u hu
  obtain⟨h3,h4⟩:=ae h2
  cases h4
  exact⟨eP _ hu,cV h3⟩
 ·cases h2
theorem gO {h:AH}(hr:HR P σ h w){n b:Nat}(hn:σ n=some b){c:List Value}{e:TypeId}{f:Bool}(hg:aS h n=some (c,e,f)) :
  ∃c' f',w.heap[b]? = some (.cells c' e f')/\PR σ c c'.toList/\(f=false->f'.1=f'.2\/c'.size<=f'.1)/\h.get n=some (.cells c e f)/\(∀i,P.info? e=some i->σ.e b*i.size<=c'.size):=by
 unfold aS at hg
 split at hg
 ·rename_i c0 e0 f0 hg'
  cases hg
  obtain⟨o',ho,hor⟩:=hr.obj n b _ hn hg'
  cases hor with
  | cells x y z=>exact⟨_,_,ho,(λi v hv=>by obtain⟨v',h1,h2⟩:=x i v hv;exact⟨v',by simpa using h1,h2⟩),y,hg',z⟩
 ·cases hg
theorem lg {h:AH}(hr:HR P σ h w){t:TypeId}{x x' v:Value}(hx:VR σ x x') (hv:gB P t x h=some v) :
  ∃v',(Instr.loadAt t x').run P w = .ok v' w/\VR σ v v':=by
 unfold gB at hv
 split at hv
 ·rename_i a
  split at hv
  ·rename_i c e f hs hc
   cases hx with
   | ptr hn=>
    obtain⟨c',f',hb,hp,_,_,_⟩:=gO hr hn hc
    obtain⟨v',h1,h2⟩:=rU hv hp hb
    exact⟨v',by simp[Instr.loadAt,Instr.sureAddr,h1],h2⟩
  ·cases hv
 ·cases hv
end
end Eva
end
section
open Go Go.RowKit
namespace Eva
section
variable {P:Program}{σ:Ren}{w:World}
theorem ak {a b:Bool}(h:(a && b)=true):a=true/\b=true:=by simpa using h
theorem fe {a b:Nat}(h:Nat.ble a b=true):a<=b:=Nat.le_of_ble_eq_true h
theorem cW {a b:Nat}(h:Nat.blt a b=true):a<b:=Nat.le_of_ble_eq_true h
theorem bH {x x':Value}{n:Nat}(hx:VR σ x x') (h:bE x=some n):∃k,x' = .int k n:=by
 unfold bE at h
 split at h
 ·cases h;cases hx;exact⟨_,rfl⟩
 ·cases h
theorem t7 {o:Oper}{ρ:Operand->Value}{x:Operand}(ho:o.op = .nilCheck x){u v:Value}(hx:VR σ u (ρ x)) (hv:AA u=some v) :
  ∃v',(execOp ρ o).run P w = .ok (.value v') w/\VR σ v v':=by
 unfold AA at hv
 split at hv
 ·cases hv
  generalize hr:ρ x=x' at hx
  cases hx with
  | ptr hn=>exact⟨_,by simp only[execOp,ho,hr];rfl,.ptr hn⟩
 ·cases hv
  generalize hr:ρ x=x' at hx
  cases hx with
  | func fn a b c d=>exact⟨_,by simp only[execOp,ho,hr];rfl,.func _ a b c d⟩
 ·cases hv
  generalize hr:ρ x=x' at hx
  cases hx with
  | iface _ h=>exact⟨_,by simp only[execOp,ho,hr];rfl,.iface _ h⟩
 ·cases hv
theorem qt {t:TypeId}{x x' v:Value}(hx:VR σ x x') (hv:qe P t x=some v) :
  ∃v',(Instr.makeInterface t x').run P w = .ok v' w/\VR σ v v':=by
 unfold qe at hv
 split at hv
 ·cases hv
 ·rename_i d hne hd
  cases hv
  refine⟨_,?_,.iface t hx⟩
  cases d <;>simp_all[Instr.makeInterface,am hd]
 ·cases hv
def ON (x:Option Value) (n:Option Nat):Prop:=
 match x,n with
 | none,none=>True
 | some v,some n=>∃k,v = .int k (n:Int)
 | _,_=>False
theorem cO {fr:Fr}{ρ:Operand->Value}{x:Option Operand}{n:Option Nat}(hx:∀y,x=some y->VR σ (ev fr y) (ρ y)) (h:gJ fr x=some n):ON (x.map ρ) n:=by
 unfold gJ at h
 split at h
 ·cases h;trivial
 ·rename_i y
  rw[Option.map_eq_some_iff]at h
  obtain⟨m,hm,rfl⟩:=h
  exact bH (hx y rfl) hm
theorem wG {k:IntKind}{n y:Nat}{code:BoundsCode}(h:n<=y):(Instr.sliceBound (.int k (n:Int)) y code).run P w = .ok n w:=by
 simp[Instr.sliceBound,asIntOf,h]
theorem i7 {isS:Bool}{len cap:Nat}{lo hi mx:Option Value}{l h m:Option Nat}(hl:ON lo l) (hh:ON hi h) (hm:ON mx m)
  (c1:m.isNone=true\/h.isSome=true) (c2:∀x,m=some x->x<=cap) (c3:∀x,h=some x->x<=m.getD cap) (c4:∀x,l=some x->x<=h.getD len) :
  (Instr.sliceBounds isS len cap lo hi mx).run P w = .ok (l.getD 0,h.getD len,m.getD cap) w:=by
 have hb:∀{k:IntKind}{n y:Nat}{code:BoundsCode},n<=y->(Instr.sliceBound (.int k (n:Int)) y code).run P w = .ok n w:=λh=>wG h
 cases mx with
 | none=>
  cases m with
  | some m=>exact hm.elim
  | none=>
   cases hi with
   | none=>
    cases h with
    | some h=>exact hh.elim
    | none=>
     cases lo with
     | none=>
      cases l with
      | some l=>exact hl.elim
      | none=>simp[Instr.sliceBounds]
     | some lv=>
      cases l with
      | none=>exact hl.elim
      | some l=>obtain⟨k,rfl⟩:=hl;have:=c4 l rfl;simp at this;simp[Instr.sliceBounds,hb this]
   | some hv=>
    cases h with
    | none=>exact hh.elim
    | some h=>
     obtain⟨k,rfl⟩:=hh
     have e3:=c3 h rfl;simp at e3
     cases lo with
     | none=>
      cases l with
      | some l=>exact hl.elim
      | none=>simp[Instr.sliceBounds,hb e3]
     | some lv=>
      cases l with
      | none=>exact hl.elim
      | some l=>obtain⟨k,rfl⟩:=hl;have:=c4 l rfl;simp at this;simp[Instr.sliceBounds,hb this,hb e3]
 | some mv=>
  cases m with
  | none=>exact hm.elim
  | some m=>
   obtain⟨k,rfl⟩:=hm
   have e2:=c2 m rfl
   cases hi with
   | none=>
    cases h with
    | some h=>exact hh.elim
    | none=>simp at c1
   | some hv=>
    cases h with
    | none=>exact hh.elim
    | some h=>
     obtain⟨k,rfl⟩:=hh
     have e3:=c3 h rfl;simp at e3
     cases lo with
     | none=>
      cases l with
      | some l=>exact hl.elim
      | none=>simp[Instr.sliceBounds,hb e2,hb e3]
     | some lv=>
      cases l with
      | none=>exact hl.elim
      | some l=>obtain⟨k,rfl⟩:=hl;have:=c4 l rfl;simp at this;simp[Instr.sliceBounds,hb e2,hb e3,hb this]
theorem rV {n b o c low size:Nat}(hn:σ n=some b){len K c':Nat}(hK:CR K c') (hx:K % 2=0){l:Nat}(hl:low=l) :
  VR σ (.slice (mh (some ⟨n,o,none⟩) c low size) len K) (.slice (some (if c=l then⟨b,o,none⟩ else(⟨b,o,none⟩:Addr).add (l*size))) len c'):=by
 subst hl
 unfold mh
 by_cases h:c=low
 ·subst h;simp only[Nat.beq_refl,cond_true,if_true];exact .sl hn hK (λh=>by omega)
 ·have:Nat.beq c low=false:=by cases hb:Nat.beq c low with | false=>rfl | true=>exact absurd (aq hb) h
  simp only[this,cond_false,h,if_false,Option.map_some,bj];exact .sl hn hK (λh=>by omega)
theorem pn {size n b o len K c' low:Nat}{high max:Option Nat}{v:Value}(hn:σ n=some b) (hK:CR K c') (hE:K % 2=1->o=0->c'<=σ.e b)
  (hv:cw size (some ⟨n,o,none⟩) len K low high max=some v) :
  (∀x,max=some x->x<=c')/\(high.getD len<=max.getD c')/\low<=high.getD len/\
  VR σ v (.slice (some (if max.getD c' = low then⟨b,o,none⟩ else(⟨b,o,none⟩:Addr).add (low*size))) (high.getD len - low) (max.getD c' - low)):=by
 have hle:=hK.le
 unfold cw at hv
 cases max with
 | some m=>
  simp only at hv
  obtain⟨h1,h2⟩:=ae hv
  obtain⟨h3,h4⟩:=ak h1
  obtain⟨h5,h6⟩:=ak h3
  cases h2
  have a1:=fe h5;have a2:=fe h6;have a3:=fe h4
  refine⟨(λx hx=>by cases hx;omega),a2,a3,?_⟩
  exact rV hn (CR.cx _) (by unfold cx;omega) rfl
 | none=>
  simp only at hv
  obtain⟨h1,h2⟩:=ae hv
  obtain⟨h3,h4⟩:=ak h1
  have a1:=fe h3;have a2:=fe h4
  refine⟨(λx hx=>by cases hx),?_,a2,?_⟩
  ·simp only[Option.getD_none];omega
  ·cases he:Nat.beq (K % 2) 0 with
   | true=>
    rw[he]at h2;cases h2
    have hc:c' = K / 2:=hK.1 (aq he)
    subst hc
    exact rV hn (CR.cx _) (by unfold cx;omega) rfl
   | false=>
    rw[he]at h2;cases h2
    simp only[cond_false,mj]
    cases hb:Nat.blt low (K / 2) with
    | true=>
     have:=cW hb
     simp only[cond_true,Option.getD_none,Option.map_some,bj,if_neg (show ¬c' = low by omega)]
     have hk:¬K % 2=0:=λe0=>by rw[e0]at he;cases he
     have hq:o+low*size=0->c' - low<=σ.e b:=λho=>by
      have:=hE (by omega) (by omega)
      omega
     exact .sl hn (CR.cl (by omega)) (λ_ ho=>hq ho)
    | false=>
     have hge:¬low<K / 2:=λh=>by rw[show Nat.blt low (K / 2)=true from Nat.ble_eq_true_of_le h]at hb;cases hb
     simp only[cond_false,Option.getD_none]
     have h0:high.getD len - low=0:=by omega
     rw[h0]
     exact .far
theorem qu {o:Oper}{fr:Fr}{ρ:Operand->Value}{t:TypeId}{x:Operand}{lo hi mx:Option Operand}(ho:o.op = .slice t x lo hi mx) (hE:OkE σ fr ρ o)
  {v:Value}(hv:tU P o fr (P.underlying t) (ev fr x) (gJ fr lo) (gJ fr hi) (gJ fr mx)=some v) :
  ∃v',(execOp ρ o).run P w = .ok (.value v') w/\VR σ v v':=by
 have hx:VR σ (ev fr x) (ρ x):=hE x (by simp[ho,Op.operands])
 have hlo:∀y,lo=some y->VR σ (ev fr y) (ρ y):=λy hy=>hE y (by simp[ho,Op.operands,hy])
 have hhi:∀y,hi=some y->VR σ (ev fr y) (ρ y):=λy hy=>hE y (by simp[ho,Op.operands,hy])
 have hmx:∀y,mx=some y->VR σ (ev fr y) (ρ y):=λy hy=>hE y (by simp[ho,Op.operands,hy])
 have key:∀r:Value,(Instr.sliceAt t (ρ x) (lo.map ρ) (hi.map ρ) (mx.map ρ)).run P w = .ok r w->(execOp ρ o).run P w = .ok (.value r) w:=by
  intro r hr;simp[execOp,ho,hr]
 unfold tU at hv
 split at hv
 ·obtain⟨h1,h2⟩:=cN (w:=w) (by simp[iO,ho]) hE hv
  exact⟨v,h1,h2⟩
 ·rename_i a len K hex
  split at hv
  ·rename_i e l hh m hd hl' hh' hm'
   have ol:=cO hlo hl'
   have oh:=cO hhi hh'
   have om:=cO hmx hm'
   unfold aE at hv
   split at hv
   ·rename_i i hi'
    split at hv
    ·obtain⟨h1,h2⟩:=ae hv
     cases h2
     obtain⟨h1,c6⟩:=ak h1
     obtain⟨h1,c5⟩:=ak h1
     obtain⟨h1,c4⟩:=ak h1
     obtain⟨h1,c3⟩:=ak h1
     obtain⟨c1,c2⟩:=ak h1
     have c1:=aq c1;have c2:=aq c2;have c3:=aq c3;have c4:=aq c4;have c5:=aq c5
     subst c1;subst c2
     rw[hex]at hx
     generalize hρ:ρ x=x' at hx
     cases hx with
     | sl0=>
      refine⟨.slice none 0 0,key _ ?_,.sl0⟩
      have hb:=i7 (P:=P) (w:=w) (isS:=true) (len:=0) (cap:=0) ol oh om (by simpa using c6) (λx hx=>by rw[hx]at c5;simp at c5;omega)
       (λx hx=>by rw[hx]at c4;simp at c4;omega) (λx hx=>by rw[hx]at c3;simp at c3;omega)
      rw[hρ]
      simp only[Instr.sliceAt,Sem.run_bind,am hd,Result.andThen_ok,Instr.slice,hb,aT hi',Sem.run_pure]
      rw[c3,c4]
      cases m with
      | none=>simp
      | some m=>simp at c5;subst c5;simp
    ·rename_i b
     split at hv
     ·rename_i hsp
      obtain⟨h1,h2⟩:=ae hv
      rw[hex]at hx
      generalize hρ:ρ x=x' at hx
      cases hx with
      | sl hn hK hq=>
       obtain⟨q1,q2,q3,q4⟩:=pn hn hK hq h2
       refine⟨_,key _ ?_,q4⟩
       have hb:=i7 (P:=P) (w:=w) (isS:=true) ol oh om (by simpa using h1) q1 (λx hx=>by rw[hx]at q2;simpa using q2) (λx hx=>by rw[hx]at q3;simpa using q3)
       rw[hρ]
       simp only[Instr.sliceAt,Sem.run_bind,am hd,Result.andThen_ok,Instr.slice,hb,aT hi',Sem.run_pure]
       congr 2
       split <;>rfl
      | far=>simp at hsp
     ·cases hv
   ·cases hv
  ·cases hv
 ·rename_i b hex
  split at hv
  ·rename_i n e l hh hd hl' hh' hm'
   have ol:=cO hlo hl'
   have oh:=cO hhi hh'
   have om:=cO hmx hm'
   unfold qf at hv
   split at hv
   ·rename_i i hi' hsp
    rw[hex]at hx
    generalize hρ:ρ x=x' at hx
    cases hx with
    | ptr hn=>
     obtain⟨q1,q2,q3,q4⟩:=pn hn (CR.cx n) (λh=>by unfold cx at h;omega) hv
     refine⟨_,key _ ?_,q4⟩
     have hb:=i7 (P:=P) (w:=w) (isS:=false) ol oh om (.inl rfl) q1 (λx hx=>by rw[hx]at q2;simpa using q2) (λx hx=>by rw[hx]at q3;simpa using q3)
     rw[hρ]
     simp only[Instr.sliceAt,Sem.run_bind,am hd,Result.andThen_ok,Instr.sureAddr,hb,aT hi',Sem.run_pure]
   ·cases hv
  ·cases hv
 ·cases hv
end
end Eva
end
section
open Go Go.RowKit
namespace Eva
section
variable {P:Program}{σ:Ren}{w:World}
theorem kv {s:TypeId}{x x' v:Value}{f:Nat}(hx:VR σ x x') (hv:fQ P (P.underlying s) x f=some v) :
  ∃v',(Instr.fieldAt s x' f).run P w = .ok v' w/\VR σ v v':=by
 unfold fQ at hv
 split at hv
 ·rename_i fields a hd
  split at hv
  ·rename_i fd hf hs
   split at hv
   ·rename_i i hi
    cases hz:Nat.beq i.size 0 with
    | true=>rw[hz]at hv;cases hv
    | false=>
     rw[hz]at hv;cases hv
     have hne:¬i.size=0:=λe=>by rw[e]at hz;cases hz
     cases hx with
     | ptr hn=>
      refine⟨_,?_,by rw[bj];exact .ptr hn⟩
      simp only[Instr.fieldAt,Sem.run_bind,am hd,Result.andThen_ok,hf,Instr.sureAddr,Sem.run_pure,fieldPlace,aT hi,hne,if_false,bj]
   ·cases hv
  ·cases hv
 ·cases hv
theorem PR.of_agg {c c':Array Value}(hs:c.size=c'.size) (h:∀(i:Nat) v v',c[i]? = some v->c'[i]? = some v'->VR σ v v'):PR σ c.toList c'.toList:=by
 intro i v hv
 have hi:i<c'.size:=by rw[<-hs];exact(Array.getElem?_eq_some_iff.1 (by simpa using hv)).1
 exact⟨c'[i],by simp[hi],h i v _ (by simpa using hv) (Array.getElem?_eq_getElem hi)⟩
theorem qv {t:TypeId}{x x' v:Value}{f:Nat}(hx:VR σ x x') (hv:qg P (P.underlying t) x f=some v) :
  ∃v',(Instr.field t x' f).run P w = .ok v' w/\VR σ v v':=by
 unfold qg at hv
 split at hv
 ·rename_i fields cs hd
  split at hv
  ·rename_i fd hf
   cases hx with
   | agg hs hx=>
    obtain⟨v',h1,h2⟩:=lf (w:=w) hv (PR.of_agg hs hx)
    exact⟨v',by simp[Instr.field,am hd,hf,asAgg,h1],h2⟩
  ·cases hv
 ·cases hv
theorem kw {t:TypeId}{x x' y y' v:Value}(hx:VR σ x x') (hy:VR σ y y') (hv:di P (P.underlying t) x (bE y)=some v) :
  ∃v',(Instr.indexAt t x' y').run P w = .ok v' w/\VR σ v v':=by
 unfold di at hv
 split at hv
 ·rename_i e a len K i hd hi
  obtain⟨k,rfl⟩:=bH hy hi
  unfold idx at hv
  split at hv
  ·rename_i inf hinf hs
   obtain⟨h1,h2⟩:=ae hv
   cases h2
   have hlt:=cW h1
   cases hx with
   | sl hn hK hq=>
    refine⟨_,?_,by rw[bj];exact .ptr hn⟩
    have:(0:Int)<=i/\(i:Int)<(len:Int):=by omega
    simp[Instr.indexAt,asIntOf,am hd,aT hinf,hlt,bj]
   | far=>simp at hs
  ·cases hv
 ·rename_i n e a i hd hi
  obtain⟨k,rfl⟩:=bH hy hi
  unfold idx at hv
  split at hv
  ·rename_i inf hinf hs
   obtain⟨h1,h2⟩:=ae hv
   cases h2
   have hlt:=cW h1
   cases hx with
   | ptr hn=>
    refine⟨_,?_,by rw[bj];exact .ptr hn⟩
    simp[Instr.indexAt,asIntOf,am hd,aT hinf,hlt,bj,Instr.sureAddr]
  ·cases hv
 ·cases hv
theorem wH (s:ByteArray) (i:Nat):s[i]? = s.data.toList[i]?:=by
 by_cases h:i<s.size
 ·rw[getElem?_pos s i h]
  have h2:i<s.data.toList.length:=by simpa using h
  rw[List.getElem?_eq_getElem h2]
  rfl
 ·rw[getElem?_neg s i h,List.getElem?_eq_none (by simpa using h)]
theorem qw {t:TypeId}{x x' y y' v:Value}(hx:VR σ x x') (hy:VR σ y y') (hv:qh P (P.underlying t) x (bE y)=some v) :
  ∃v',(Instr.index t x' y').run P w = .ok v' w/\VR σ v v':=by
 unfold qh at hv
 split at hv
 ·rename_i n e cs i hd hi
  obtain⟨k,rfl⟩:=bH hy hi
  split at hv
  ·rename_i inf hinf
   obtain⟨h1,h2⟩:=ae hv
   have hlt:=cW h1
   cases hx with
   | agg hs hx=>
    obtain⟨v',h3,h4⟩:=lf (w:=w) h2 (PR.of_agg hs hx)
    exact⟨v',by simp[Instr.index,asIntOf,am hd,aT hinf,hlt,h3],h4⟩
  ·cases hv
 ·rename_i s i hd hi
  obtain⟨k,rfl⟩:=bH hy hi
  split at hv
  ·rename_i b hb
   cases hv
   cases hx
   refine⟨_,?_,.int _ _⟩
   have hb':s[i]? = some b:=by rw[wH];exact hb
   simp[Instr.index,asIntOf,am hd,hb']
  ·cases hv
 ·cases hv
theorem mD {x x' v:Value}{i:Nat}(hx:VR σ x x') (hv:jB x i=some v):∃v',(Instr.extract x' i).run P w = .ok v' w/\VR σ v v':=by
 unfold jB at hv
 split at hv
 ·cases hx with
  | tuple hs hx=>
   obtain⟨v',h1,h2⟩:=PR.of_agg hs hx i v hv
   have h1':_:=h1
   rw[Array.getElem?_toList]at h1'
   exact⟨v',by simp[Instr.extract,h1'],h2⟩
 ·cases hv
def ER (σ:Ren) (es:List (Value×Value×Nat)) (es':List MapEntry):Prop:=
 es.length=es'.length/\∀(i:Nat) k v b,es[i]? = some (k,v,b)->∃e',es'[i]? = some e'/\VR σ k e'.key/\VR σ v e'.val/\e'.born=b
theorem ER.tail {x:Value×Value×Nat}{e:MapEntry}{es:List (Value×Value×Nat)}{es':List MapEntry}(h:ER σ (x :: es) (e :: es')):ER σ es es':=
 ⟨by simpa using h.1,λi k v b hi=>h.2 (i+1) k v b (by simpa using hi)⟩
theorem ER.head {k v:Value}{b:Nat}{e:MapEntry}{es:List (Value×Value×Nat)}{es':List MapEntry}(h:ER σ ((k,v,b) :: es) (e :: es')):VR σ k e.key/\VR σ v e.val:=by
 obtain⟨e',h1,h2,h3,_⟩:=h.2 0 k v b rfl
 simp at h1;subst h1;exact⟨h2,h3⟩
theorem rW (kt:TypeId) (a b:Value):∃d0,Op.equal kt a b=Op.equalIn (d0+1) kt a b:=⟨9999,rfl⟩
theorem yq (e:Bool) (kt:TypeId) (k:Value):∃d0,Instr.checkKey e 10000 kt k=Instr.checkKey e (d0+1) kt k:=⟨9999,rfl⟩
theorem mE {kt:TypeId}{d:TypeDesc}(hd:P.underlying kt=some d){a b:Value}{r:Bool}(h:Instr.sameNow d a b=some r):(Op.equal kt a b).run P w = .ok r w:=by
 obtain⟨d0,e⟩:=rW kt a b
 rw[e]
 unfold Instr.sameNow at h
 split at h
 ·rename_i k x k' y
  split at h
  ·rename_i hk;cases h;simp[Op.equalIn,am hd,hk]
  ·cases h
 ·cases h;simp[Op.equalIn,am hd]
 ·cases h;simp[Op.equalIn,am hd]
 ·cases h
theorem mF {kt:TypeId}{d:TypeDesc}(hd:P.underlying kt=some d){k:Value}:∀(es:List MapEntry) (i:Nat){r:Option (Nat×Value)},Instr.findNow d k es i=some r->
  (Instr.findAsking kt k es i).run P w = .ok r w
 | [],i,r,h=>by simp[Instr.findNow]at h;subst h;simp[Instr.findAsking]
 | e :: es,i,r,h=>by
  simp only[Instr.findNow]at h
  split at h
  ·rename_i hs;cases h
   simp[Instr.findAsking,mE (w:=w) hd hs]
  ·rename_i hs
   simp[Instr.findAsking,mE (w:=w) hd hs,mF hd es (i+1) h]
  ·cases h
theorem eQ {kt:TypeId}{d:TypeDesc}(hd:P.underlying kt=some d){k:Value}{es:List MapEntry}{r:Option (Nat×Value)}(h:(Instr.findAsking kt k es 0).run P w = .ok r w) :
  (Instr.findKey kt k es).run P w = .ok r w:=by
 unfold Instr.findKey
 simp only[Sem.run_bind,am hd,Result.andThen_ok]
 split
 ·rename_i r' hr
  have:=mF (w:=w) hd es 0 hr
  rw[h]at this;cases this;rfl
 ·exact h
def FR (σ:Ren) (r r':Option (Nat×Value)):Prop:=
 match r,r' with
 | none,none=>True
 | some (i,v),some (j,v')=>i=j/\VR σ v v'
 | _,_=>False
theorem dz {kt:TypeId}{k:Value}:∀(es:List (Value×Value×Nat)) (es':List MapEntry) (i:Nat){r:Option (Nat×Value)},ER σ es es'->fp P kt k es i=some r->
  pl k=true/\∃r',(Instr.findAsking kt k es' i).run P w = .ok r' w/\FR σ r r'
 | [],es',i,r,hE,h=>by
  have h':cond (pl k) (some none) none=some r:=h
  obtain⟨h1,h2⟩:=ae h'
  cases h2
  have:es' = []:=List.eq_nil_of_length_eq_zero (by simpa using hE.1.symm)
  subst this
  exact⟨h1,none,by simp[Instr.findAsking],trivial⟩
 | (key,v,b) :: es,es',i,r,hE,h=>by
  have h':cond (pl k && pl key) (mo i v (fp P kt k es (i+1)) (au P (Op.equal kt k key))) none=some r:=h
  obtain⟨h1,h2⟩:=ae h'
  obtain⟨h3,h4⟩:=ak h1
  cases es' with
  | nil=>have:=hE.1;simp at this
  | cons e es'=>
   obtain⟨hk,hvv⟩:=hE.head
   have hke:e.key=key:=rT h4 hk
   unfold mo at h2
   split at h2
   ·rename_i hq
    cases h2
    refine⟨h3,some (i,e.val),?_,rfl,hvv⟩
    simp[Instr.findAsking,hke,eP (w:=w) _ hq]
   ·rename_i hq
    obtain⟨_,r',h5,h6⟩:=dz es es' (i+1) hE.tail h2
    refine⟨h3,r',?_,h6⟩
    simp[Instr.findAsking,hke,eP (w:=w) _ hq,h5]
   ·cases h2
theorem lh {kt:TypeId}{e:Bool}{k:Value}(h:jD P kt e k=true):(Instr.checkKey e 10000 kt k).run P w = .ok () w:=by
 unfold jD at h
 split at h
 ·rename_i u hu;exact eP _ hu
 ·cases h
theorem t8 {h:AH}(hr:HR P σ h w){n b:Nat}(hn:σ n=some b){es:List (Value×Value×Nat)}{clock:Nat}(hg:h.get n=some (.map es clock)) :
  ∃es',w.heap[b]? = some (.map es' clock)/\ER σ es es'.toList:=by
 obtain⟨o',ho,hor⟩:=hr.obj n b _ hn hg
 cases hor with
 | map x y=>exact⟨_,ho,by simpa using x,λi k v c hi=>by obtain⟨e',h1,h2⟩:=y i k v c hi;exact⟨e',by simpa using h1,h2⟩⟩
theorem eh {b:Nat}{es':Array MapEntry}{clock:Nat}(h:w.heap[b]? = some (.map es' clock)):(getObj b).run P w = .ok (.map es' clock) w:=by
 simp[getObj,Sem.run,h]
theorem po {kt:TypeId}{e:Bool}{k:Value}(h:(Instr.checkKey e 10000 kt k).run P w = .ok () w):∃d,P.underlying kt=some d:=by
 cases hq:P.underlying kt with
 | some d=>exact⟨d,rfl⟩
 | none=>
  exfalso
  obtain⟨d0,e1⟩:=yq e kt k
  rw[e1]at h
  simp[Instr.checkKey,underlying,program,Sem.run,hq,stuck]at h
theorem pp {kt e:TypeId}{i:TypeInfo}{k:Value}{ok:Bool}{es:List (Value×Value×Nat)}{es':Array MapEntry}{v:Value}(hE:ER σ es es'.toList) (hi:P.info? e=some i)
  (hc:(Instr.checkKey es.isEmpty 10000 kt k).run P w = .ok () w) (h:qi ok i.zero (fp P kt k es 0)=some v) :
  es'.isEmpty=es.isEmpty/\∃v' r',VR σ v v'/\(Instr.findKey kt k es'.toList).run P w = .ok r' w/\
   ((∃j u,r' = some (j,u)/\v' = (if ok then .tuple #[u,.bool true] else u))\/(r' = none/\∃z,i.zero=some z/\v' = (if ok then .tuple #[z,.bool false] else z))):=by
 obtain⟨d,hdd⟩:=po hc
 refine⟨?_,?_⟩
 ·have:=hE.1
  cases es with
  | nil=>simp at this;simp[Array.isEmpty,<-this]
  | cons a l=>
   have h0:es'.size≠0:=by simp at this;omega
   simp[Array.isEmpty,h0]
 ·unfold qi at h
  split at h
  ·rename_i j u hf
   cases h
   obtain⟨_,r',h5,h6⟩:=dz (w:=w) es es'.toList 0 hE hf
   cases r' with
   | none=>exact h6.elim
   | some p=>
    obtain⟨j',u'⟩:=p
    obtain⟨rfl,hu⟩:=h6
    refine⟨_,_,?_,eQ hdd h5,.inl ⟨_,_,rfl,rfl⟩⟩
    cases ok
    ·exact hu
    ·exact VR.tuple' (VRs.cons hu (VRs.cons (.bool _) (VRs.nil σ)))
  ·rename_i hf
   split at h
   ·rename_i z hz
    obtain⟨h7,h8⟩:=ae h
    cases h8
    obtain⟨_,r',h5,h6⟩:=dz (w:=w) es es'.toList 0 hE hf
    cases r' with
    | some p=>exact h6.elim
    | none=>
     refine⟨_,_,?_,eQ hdd h5,.inr ⟨rfl,z,hz,rfl⟩⟩
     cases ok
     ·exact cV h7
     ·exact VR.tuple' (VRs.cons (cV h7) (VRs.cons (.bool _) (VRs.nil σ)))
   ·cases h
  ·cases h
theorem oG {h:AH}(hr:HR P σ h w){t:TypeId}{x x' k k' v:Value}{ok:Bool}(hx:VR σ x x') (hk:VR σ k k') (hv:bz P (P.underlying t) x k ok h=some v) :
  ∃v',(Instr.lookup t x' k' ok).run P w = .ok v' w/\VR σ v v':=by
 unfold bz at hv
 split at hv
 ·rename_i kt e r hd
  split at hv
  ·rename_i es i hes hi
   obtain⟨h1,h2⟩:=ae hv
   obtain⟨h3,h4⟩:=ak h1
   have hke:=rT h3 hk
   subst hke
   have hc:=lh (w:=w) h4
   unfold jC at hes
   cases hx with
   | map0=>
    simp at hes;subst hes
    obtain⟨hemp,v',r',hV,hf,hcase⟩:=pp (es':=#[]) ⟨rfl,λi k v b h=>by simp at h⟩ hi hc h2
    refine⟨v',?_,hV⟩
    rcases hcase with⟨j,u,rfl,rfl⟩ | ⟨rfl,z,hz,rfl⟩
    ·simp only[Instr.lookup,Sem.run_bind,am hd,Result.andThen_ok,Sem.run_pure,hemp,hc,hf]
    ·simp only[Instr.lookup,Sem.run_bind,am hd,Result.andThen_ok,Sem.run_pure,hemp,hc,hf,dv hi hz]
   | map hn=>
    simp only at hes
    split at hes
    ·rename_i es0 clock hg
     cases hes
     obtain⟨es',hb,hE⟩:=t8 hr hn hg
     obtain⟨hemp,v',r',hV,hf,hcase⟩:=pp hE hi hc h2
     refine⟨v',?_,hV⟩
     rcases hcase with⟨j,u,rfl,rfl⟩ | ⟨rfl,z,hz,rfl⟩
     ·simp only[Instr.lookup,Sem.run_bind,am hd,Result.andThen_ok,Sem.run_pure,eh hb,hemp,hc,hf]
     ·simp only[Instr.lookup,Sem.run_bind,am hd,Result.andThen_ok,Sem.run_pure,eh hb,hemp,hc,hf,dv hi hz]
    ·cases hes
  ·cases hv
 ·cases hv
end
end Eva
end
section
open Go Go.RowKit
namespace Eva
section
variable {P:Program}{σ:Ren}{w:World}
theorem rX {o:Oper}{op:BinOp}{t t2:TypeId}{x y:Operand}{ρ:Operand->Value}(ho:o.op = .binOp op t x y t2){k:IntKind}{a b:Int}(hx:ρ x = .int k a) (hy:ρ y = .int k b)
  {other:Option Value}{v:Value}(hv:pg op k a b other=some v) (hoth:other=some v->(execOp ρ o).run P w = .ok (.value v) w/\VR σ v v) :
  (execOp ρ o).run P w = .ok (.value v) w/\VR σ v v:=by
 unfold pg at hv
 split at hv
 all_goals first
  | exact hoth hv
  | (cases hv;refine⟨?_,by first | exact .int _ _ | exact .bool _⟩;simp[execOp,ho,hx,hy,eqGuard,binOp,Op.intArith,Op.intCmp];done)
  | (cases hv;refine⟨?_,by first | exact .int _ _ | exact .bool _⟩;simp[execOp,ho,hx,hy,eqGuard,binOp,Op.intArith,Op.intCmp])
theorem wI {t:TypeId}{x y x' y':Value}(hx:VR σ x x') (hy:VR σ y y') (h:jE (P.underlying t) x y=true) :
  (Op.equal t x' y').run P w = .ok false w/\(∀op xo yo,(op=BinOp.eql\/op = .neq)->(eqGuard op t xo yo x' y').run P w = .ok () w/\
   (binOp .eql t x' y' = (do pure (.bool (<-Op.equal t x' y'))))/\(binOp .neq t x' y' = (do pure (.bool (!(<-Op.equal t x' y')))))):=by
 obtain⟨d0,e⟩:=rW t x' y'
 cases hd:P.underlying t with
 | none=>
  rw[hd]at h
  exfalso
  cases hx <;>cases hy <;>simp[jE,mq,tV,cC,qj,fR,dS,oF]at h
 | some d=>
  rw[hd]at h
  cases hx <;>cases hy <;>simp[jE,dS,oF,mq,tV,cC,qj,fR]at h <;>
   (cases d <;>simp at h <;>refine⟨by rw[e];simp[Op.equalIn,am hd],λop xo yo hop=>⟨by rcases hop with rfl | rfl <;>simp[eqGuard],by rfl,by rfl⟩⟩)
theorem t9 {o:Oper}{fr:Fr}{ρ:Operand->Value}{op:BinOp}{t t2:TypeId}{x y:Operand}(ho:o.op = .binOp op t x y t2) (hE:OkE σ fr ρ o)
  {v:Value}(hv:Cr P op t o fr (ev fr x) (ev fr y)=some v):∃v',(execOp ρ o).run P w = .ok (.value v') w/\VR σ v v':=by
 have hx:VR σ (ev fr x) (ρ x):=hE x (by simp[ho,Op.operands])
 have hy:VR σ (ev fr y) (ρ y):=hE y (by simp[ho,Op.operands])
 have hsel:iO o=true:=by simp[iO,ho]
 unfold Cr at hv
 split at hv
 ·rename_i k a l b hxe hye
  rw[hxe]at hx;rw[hye]at hy
  cases hkl:(k == l) with
  | false=>
   rw[hkl]at hv
   obtain⟨h1,h2⟩:=cN (w:=w) hsel hE hv
   exact⟨v,h1,h2⟩
  | true=>
  rw[hkl]at hv
  have h2:pg op k a b (gen P o fr)=some v:=hv
  have hk:k=l:=by simpa using hkl
  subst hk
  have ex:ρ x = .int k a:=by generalize ρ x=x' at hx;cases hx;rfl
  have ey:ρ y = .int k b:=by generalize ρ y=y' at hy;cases hy;rfl
  obtain⟨h3,h4⟩:=rX (σ:=σ) (w:=w) ho ex ey h2 (λh=>cN hsel hE h)
  exact⟨v,h3,h4⟩
 ·unfold yf at hv
  split at hv
  ·rename_i hk
   obtain⟨h1,h2⟩:=wI (w:=w) hx hy hk
   split at hv
   ·cases hv
    obtain⟨g1,g2,_⟩:=h2 .eql x y (.inl rfl)
    exact⟨_,by simp only[execOp,ho,Sem.run_bind,g1,Result.andThen_ok,g2,h1,Sem.run_pure],.bool _⟩
   ·cases hv
    obtain⟨g1,_,g3⟩:=h2 .neq x y (.inr rfl)
    exact⟨_,by simp only[execOp,ho,Sem.run_bind,g1,Result.andThen_ok,g3,h1,Sem.run_pure,Bool.not_false],.bool _⟩
   ·cases hv
  ·obtain⟨h1,h2⟩:=cN (w:=w) hsel hE hv
   exact⟨v,h1,h2⟩
theorem ua {h:AH}(hr:HR P σ h w){o:Oper}{fr:Fr}{t ty:TypeId}{ts:Array TypeId}{x x' v:Value}(ht:ts[0]? = some t) (hx:VR σ x x') (hv:wB P o fr h (P.underlying t) x=some v) :
  ∃v',(Builtin.len_ ts ty #[x']).run P w = .ok v' w/\VR σ v v':=by
 unfold wB at hv
 split at hv
 ·rename_i a n K
  obtain⟨h1,h2⟩:=ae hv
  cases h2
  cases hd:P.underlying t with
  | none=>rw[hd]at h1;cases h1
  | some d=>
   rw[hd]at h1
   cases d <;>simp[cC]at h1
   cases hx <;>exact⟨_,by simp[Builtin.len_,ht,am hd];rfl,.int _ _⟩
 ·rename_i r
  obtain⟨h1,h2⟩:=ae hv
  cases hd:P.underlying t with
  | none=>rw[hd]at h1;cases h1
  | some d=>
   rw[hd]at h1
   cases d <;>simp[fR]at h1
   unfold qk at h2
   split at h2
   ·rename_i es clock hg
    cases h2
    cases hx with
    | map hn=>
     obtain⟨es',hb,hE⟩:=t8 hr hn hg
     refine⟨_,?_,.int _ _⟩
     have:es'.size=es.length:=by simpa using hE.1.symm
     simp[Builtin.len_,ht,am hd,eh hb,goInt,this]
   ·cases h2
 ·split at hv
  ·rename_i s d hd
   cases hv
   cases hx
   exact⟨_,by simp[Builtin.len_,ht,am hd];rfl,.int _ _⟩
  ·cases hv
 ·cases hv
theorem ub {t ty:TypeId}{ts:Array TypeId}{x x' v:Value}(ht:ts[0]? = some t) (hx:VR σ x x') (hv:tW (P.underlying t) x=some v) :
  ∃v',(Builtin.cap_ ts ty #[x']).run P w = .ok v' w/\VR σ v v':=by
 unfold tW at hv
 split at hv
 ·rename_i a n K
  obtain⟨h1,h2⟩:=ae hv
  obtain⟨h3,h4⟩:=ak h1
  cases h2
  cases hd:P.underlying t with
  | none=>rw[hd]at h3;cases h3
  | some d=>
   rw[hd]at h3
   cases d <;>simp[cC]at h3
   cases hx with
   | sl0=>exact⟨_,by simp[Builtin.cap_,ht,am hd];rfl,.int _ _⟩
   | sl hn hK hq=>
    have:=hK.1 (aq h4)
    subst this
    exact⟨_,by simp[Builtin.cap_,ht,am hd];rfl,.int _ _⟩
   | far=>cases h4
 ·cases hv
theorem lY:∀{c:List Value}{o:Nat}{vs r:List Value},gE c o vs=some r->r=c.take o ++ vs ++ c.drop (o+vs.length)
 | c,o,[],r,h=>by simp[gE]at h;subst h;simp
 | [],o,v :: vs,r,h=>by cases o <;>simp[gE]at h
 | x :: c,0,v :: vs,r,h=>by
  simp only[gE,Option.map_eq_some_iff]at h
  obtain⟨r',h1,rfl⟩:=h
  rw[lY h1]
  simp[Nat.add_comm]
 | x :: c,o+1,v :: vs,r,h=>by
  simp only[gE,Option.map_eq_some_iff]at h
  obtain⟨r',h1,rfl⟩:=h
  rw[lY h1,show o+1+(v :: vs).length=(o+(v :: vs).length)+1 by omega]
  simp
theorem wJ:∀(c:List Value) (o:Nat) (vs r:List Value),gE c o vs=some r->vs≠[]->o+vs.length<=c.length:=by
 intro c
 induction c with
 | nil=>intro o vs r h hn;cases vs with | nil=>exact absurd rfl hn | cons a b=>cases o <;>simp[gE]at h
 | cons y c ih=>
  intro o vs r h hn
  cases vs with
  | nil=>exact absurd rfl hn
  | cons a b=>
   cases o with
   | zero=>
    simp only[gE,Option.map_eq_some_iff]at h
    obtain⟨q,h1,_⟩:=h
    cases b with
    | nil=>simp
    | cons d e=>have:=ih 0 (d :: e) q h1 (by simp);simp at this⊢;omega
   | succ o=>
    simp only[gE,Option.map_eq_some_iff]at h
    obtain⟨q,h1,_⟩:=h
    have:=ih o (a :: b) q h1 (by simp);simp at this⊢;omega
theorem fV (off:Nat):∀(l:List Value) (k:Nat) (A:Array Value),off+k+l.length<=A.size->
  ((l.zipIdx k).foldl (λ(cs:Array Value) (p:Value×Nat)=>cs.setIfInBounds (off+p.2) p.1) A).toList=A.toList.take (off+k) ++ l ++ A.toList.drop (off+k+l.length)
 | [],k,A,_=>by simp
 | x :: l,k,A,h=>by
  simp only[List.zipIdx_cons,List.foldl_cons]
  rw[fV off l (k+1) _ (by simp at h⊢;omega)]
  simp only[Array.toList_setIfInBounds,List.length_cons]
  have hlt:off+k<A.toList.length:=by simp at h⊢;omega
  rw[List.set_eq_take_append_cons_drop,if_pos hlt]
  have e1:(A.toList.take (off+k)).length=off+k:=by rw[List.length_take];omega
  rw[show off+(k+1)=off+k+1 by omega]
  rw[List.take_append,List.drop_append,e1]
  rw[List.take_of_length_le (by omega:(A.toList.take (off+k)).length<=off+k+1),List.drop_eq_nil_of_le (by omega:(A.toList.take (off+k)).length<=off+k+1+l.length)]
  rw[show off+k+1 - (off+k)=0+1 by omega,show off+k+1+l.length - (off+k)=l.length+1 by omega]
  simp[List.drop_drop]
  rw[show off+k+(l.length+1)=off+k+1+l.length by omega]
def PS (σ:Ren) (ps ps':List (Nat×Value)):Prop:=ps.length=ps'.length/\∀(i:Nat) p p',ps[i]? = some p->ps'[i]? = some p'->p.1=p'.1/\VR σ p.2 p'.2
theorem eR {place place':Nat->Option (Nat×Nat)}(hp:∀k x,place k=some x->place' k=some x):∀(ps ps':List (Nat×Value)) (cells:List Value) (cells':Array Value){v:Value},
  PS σ ps ps'->VRs σ cells cells'.toList->rP place ps cells=some v->∃c c',v = .agg c/\Instr.fill place' cells' ps' = some c'/\VRs σ c.toList c'.toList
 | [],ps',cells,cells',v,hP,hc,h=>by
  have:ps' = []:=List.eq_nil_of_length_eq_zero (by simpa using hP.1.symm)
  subst this
  have h':some (Value.agg cells.toArray)=some v:=h
  cases h'
  exact⟨_,cells',rfl,rfl,by simpa using hc⟩
 | p :: ps,ps',cells,cells',v,hP,hc,h=>by
  cases ps' with
  | nil=>have:=hP.1;simp at this
  | cons p' ps'=>
   obtain⟨hi,hv⟩:=hP.2 0 p p' rfl rfl
   have hP':PS σ ps ps':=⟨by have:=hP.1;simpa using this,λi a b x y=>hP.2 (i+1) a b (by simpa using x) (by simpa using y)⟩
   have h':yg place (rP place ps) cells p=some v:=h
   unfold yg at h'
   split at h'
   ·rename_i off size hpl
    obtain⟨h1,h2⟩:=ae h'
    obtain⟨hJ,h1⟩:=ak h1
    obtain⟨h3,h4⟩:=ak h1
    have h3:=aq h3;have h4:=fe h4
    split at h2
    ·rename_i c hset
     have hcv:=hv.cells hJ
     have hsz:p'.2.cells.size=size:=by have:=hcv.1;simp at this;rw[<-this,<-h3];simp
     have hcs:cells'.size=cells.length:=by have:=hc.1;simp at this;exact this.symm
     obtain⟨i',v'⟩:=p'
     obtain⟨i0,v0⟩:=p
     simp only at hi hv hpl h3 hset hcv hsz
     subst hi
     have e:=lY hset
     have hfold:(v'.cells.zipIdx.foldl (λcs (x:Value×Nat)=>cs.setIfInBounds (off+x.2) x.1) cells').toList=cells'.toList.take off ++ v'.cells.toList ++ cells'.toList.drop (off+v'.cells.toList.length):=by
      have:=fV off v'.cells.toList 0 cells' (by simp[hsz];omega)
      rw[Nat.add_zero]at this
      rw[<-this,<-Array.foldl_toList,Array.toList_zipIdx]
     obtain⟨c1,c',r1,r2,r3⟩:=eR hp ps ps' c (v'.cells.zipIdx.foldl (λcs (x:Value×Nat)=>cs.setIfInBounds (off+x.2) x.1) cells') hP' (by
      rw[hfold,e,<-hcv.1]
      exact((hc.take off).append hcv).append (hc.drop _)) h2
     refine⟨c1,c',r1,?_,r3⟩
     unfold Instr.fill
     rw[hp _ _ hpl]
     simp only
     rw[if_neg (by simp[hsz];omega)]
     exact r2
    ·cases h2
   ·cases h'
theorem lk {fr:Fr}{ρ:Operand->Value}{ps:Array (Nat×Operand)}(h:∀x∈ps.toList.map (·.2),VR σ (ev fr x) (ρ x)):PS σ (ph fr ps) ((ps.map λ(i,x)=>(i,ρ x)).toList):=by
 unfold ph
 refine⟨by simp,λi p p' hp hp'=>?_⟩
 rw[List.getElem?_map,Option.map_eq_some_iff]at hp
 obtain⟨q,hq,rfl⟩:=hp
 rw[Array.toList_map,List.getElem?_map,hq]at hp'
 simp only[Option.map_some,Option.some.injEq]at hp'
 subst hp'
 exact⟨rfl,h q.2 (List.mem_map.2 ⟨q,List.mem_of_getElem? hq,rfl⟩)⟩
theorem wK {fields:List Field}(h:aO (λf=>(P.info? f.type).isSome) fields=true) :
  ∃places,fields.mapM (λf=>(P.info? f.type).map λi=>(f.offset,i.size))=some places/\∀(k:Nat),places[k]? = (fields[k]?).bind λf=>(P.info? f.type).map λi=>(f.offset,i.size):=by
 induction fields with
 | nil=>exact⟨[],rfl,λk=>by simp⟩
 | cons f fields ih=>
  have hf:=aQ h f (by simp)
  obtain⟨i,hi⟩:=Option.isSome_iff_exists.1 hf
  have ht:aO (λf=>(P.info? f.type).isSome) fields=true:=by
   have h':cond (P.info? f.type).isSome (aO (λf=>(P.info? f.type).isSome) fields) false=true:=h
   exact(dy h').2
  obtain⟨places,h1,h2⟩:=ih ht
  refine⟨(f.offset,i.size) :: places,by simp[List.mapM_cons,hi,h1],λk=>?_⟩
  cases k with
  | zero=>simp[hi]
  | succ k=>simpa using h2 k
theorem qz {t:TypeId}{ps:List (Nat×Value)}{ps':Array (Nat×Value)}(hP:PS σ ps ps'.toList){v:Value}(hv:ql P (P.underlying t) (P.info? t) ps=some v) :
  ∃v',(Instr.build t ps').run P w = .ok v' w/\VR σ v v':=by
 unfold ql at hv
 split at hv
 ·rename_i fields i hd hi
  split at hv
  ·rename_i z hz
   obtain⟨h1,h2⟩:=ae hv
   obtain⟨h3,h4⟩:=ak h1
   obtain⟨places,hm,hpl⟩:=wK (P:=P) h3
   obtain⟨c,c',rfl,hf,hc⟩:=eR (place':=(places.toArray[·]?)) (λk x hx=>by
    unfold fieldAt at hx
    simp only[List.getElem?_toArray]
    rw[hpl k]
    split at hx
    ·rename_i f hf
     split at hx
     ·rename_i j hj
      cases hx
      have:fields.toList[k]? = some f:=by simpa using hf
      simp[this,hj]
     ·cases hx
    ·cases hx) ps ps'.toList z.cells.toList z.cells hP (by
      have:=(cV (σ:=σ) h4).cells (pk h4)
      exact this) h2
   refine⟨.agg c',?_,?_⟩
   ·refine run_build w t ps' c' ?_
    unfold Program.built
    rw[hi,hd]
    simp only[hz,hm]
    exact hf
   ·have:=VR.agg' hc;simpa using this
  ·cases hv
 ·rename_i n e i hd hi
  split at hv
  ·rename_i z j hz hj
   obtain⟨h1,h2⟩:=ae hv
   obtain⟨c,c',rfl,hf,hc⟩:=eR (place':=λk=>some (k*j.size,j.size)) (λk x hx=>hx) ps ps'.toList z.cells.toList z.cells hP ((cV (σ:=σ) h1).cells (pk h1)) h2
   refine⟨.agg c',?_,?_⟩
   ·refine run_build w t ps' c' ?_
    unfold Program.built
    rw[hi,hd]
    simp only[hz,hj]
    exact hf
   ·have:=VR.agg' hc;simpa using this
  ·cases hv
 ·cases hv
end
end Eva
end
section
open Go Go.RowKit
namespace Eva
section
variable {P:Program}{σ:Ren}{w:World}
theorem mG:∀(l l':List Value){bs:List UInt8},VRs σ l l'->eM l=some bs->∃ns:List Int,l' = ns.map (Value.int .u8)/\
  ∀s:ByteArray,ns.foldl (λr n=>r.push (UInt8.ofNat n.toNat)) s=⟨(s.data.toList ++ bs).toArray⟩
 | [],l',bs,hl,h=>by
  have:l' = []:=List.eq_nil_of_length_eq_zero (by simpa using hl.1.symm)
  subst this
  simp[eM]at h;subst h
  exact⟨[],rfl,λs=>by cases s;simp⟩
 | x :: l,l',bs,hl,h=>by
  cases l' with
  | nil=>have:=hl.1;simp at this
  | cons x' l'=>
   have hx:=hl.2 0 x x' rfl rfl
   have hl':VRs σ l l':=⟨by have:=hl.1;simpa using this,λi a b p q=>hl.2 (i+1) a b (by simpa using p) (by simpa using q)⟩
   unfold eM at h
   split at h
   ·rename_i e;cases e
   ·rename_i n r e
    cases e
    rw[Option.map_eq_some_iff]at h
    obtain⟨bs',h1,rfl⟩:=h
    obtain⟨ns,rfl,h2⟩:=mG l l' hl' h1
    cases hx
    refine⟨Int.ofNat n :: ns,rfl,λs=>?_⟩
    rw[List.foldl_cons,h2]
    congr 1
    apply Array.ext'
    cases s with
    | mk d=>simp[ByteArray.push]
   ·cases h
theorem mH {h:AH}(hr:HR P σ h w){n b o m:Nat}(hn:σ n=some b){l:List Value}(hl:iM h ⟨n,o,none⟩ m=some l) :
  (∃c' e' f',w.heap[b]? = some (.cells c' e' f')/\o+m<=c'.size/\VRs σ l ((c'.toList.drop o).take m))\/(m=0/\l = []):=by
 unfold iM at hl
 split at hl
 ·rename_i c e f hs hc
  obtain⟨c',f',hb,hp,_,_,_⟩:=gO hr hn hc
  rcases hp.cut hl with⟨h1,h2,h3⟩ | ⟨h1,h2⟩
  ·exact .inl ⟨c',_,f',hb,by simpa using h3,h1⟩
  ·exact .inr ⟨h1,h2⟩
 ·cases hl
theorem wL {h:AH}(hr:HR P σ h w){n b o m:Nat}(hn:σ n=some b){l:List Value}(hl:iM h ⟨n,o,none⟩ m=some l) :
  ∃l',(loadCells ⟨b,o,none⟩ m).run P w = .ok l'.toArray w/\VRs σ l l':=by
 rcases mH hr hn hl with⟨c',e',f',hb,hle,hv⟩ | ⟨rfl,rfl⟩
 ·exact⟨_,lX hb hle,hv⟩
 ·exact⟨[],rfl,VRs.nil σ⟩
theorem rY {h:AH}(hr:HR P σ h w){o:Oper}{fr:Fr}{ρ:Operand->Value}{s d:TypeId}{x:Operand}(ho:o.op = .convert s d x) (hE:OkE σ fr ρ o)
  {v:Value}(hv:ms P o fr h s d (ev fr x)=some v):∃v',(execOp ρ o).run P w = .ok (.value v') w/\VR σ v v':=by
 have hx:VR σ (ev fr x) (ρ x):=hE x (by simp[ho,Op.operands])
 have key:∀r:Value,(convert s d (ρ x)).run P w = .ok r w->(execOp ρ o).run P w = .ok (.value r) w:=by
  intro r hr;simp[execOp,ho,hr]
 unfold ms at hv
 split at hv
 ·rename_i a len K hex
  split at hv
  ·rename_i e hs hd
   split at hv
   ·rename_i he
    split at hv
    ·rename_i l hl
     split at hv
     ·rename_i bs hbs
      cases hv
      rw[hex]at hx
      generalize hρ:ρ x=x' at hx
      have conv:∀(a:Option Addr) (l c:Nat),(convert s d (.slice a l c)).run P w=(Conv.bytesToString (.slice a l c)).run P w:=λa l c=>run_convert_bytes_string w s d e a l c hs he hd
      cases hx with
      | sl0=>
       simp[fS]at hl;subst hl
       simp[eM]at hbs;subst hbs
       refine⟨.string ⟨#[]⟩,key _ ?_,.string _⟩
       rw[hρ,conv]
       rfl
      | @sl n b o' _ _ c hn hK hq=>
       have hrun:∃l',(loadCells ⟨b,o',none⟩ len).run P w = .ok l'.toArray w/\VRs σ l l':=by
        unfold fS at hl
        simp only at hl
        cases h0:Nat.beq len 0 with
        | true=>
         rw[h0]at hl;cases hl
         have:=aq h0;subst this
         exact⟨[],rfl,VRs.nil σ⟩
        | false=>rw[h0]at hl;exact wL hr hn hl
       obtain⟨l',h1,h2⟩:=hrun
       obtain⟨ns,rfl,h3⟩:=mG l l' h2 hbs
       refine⟨_,key _ ?_,.string _⟩
       rw[hρ,conv,run_bytesToString w _ _ _ ns h1,h3]
       simp[ByteArray.empty,ByteArray.emptyWithCapacity]
       try rfl
      | @far a' c=>
       simp[fS,Nat.beq_refl]at hl;subst hl
       simp[eM]at hbs;subst hbs
       refine⟨.string ⟨#[]⟩,key _ ?_,.string _⟩
       rw[hρ,conv]
       rfl
     ·cases hv
    ·cases hv
   ·cases hv
  ·cases hv
 ·obtain⟨h1,h2⟩:=cN (w:=w) (by simp[iO,ho]) hE hv
  exact⟨v,h1,h2⟩
theorem oH {t xt:TypeId}{x x' v:Value}{ok:Bool}(hx:VR σ x x') (hv:lT P t x ok=some v) :
  ∃v',(Instr.typeAssert x' xt t ok).run P w = .ok v' w/\VR σ v v':=by
 unfold lT at hv
 split at hv
 ·cases hv
 ·rename_i d u y hni hd
  obtain⟨h1,h2⟩:=ae hv
  have:=aq h1
  subst this
  cases h2
  cases hx with
  | iface _ hy=>
   cases ok
   ·refine⟨_,?_,hy⟩
    cases d <;>first | (exfalso;exact hni _ hd rfl) | (simp[Instr.typeAssert,am hd];done) | (exfalso;simp_all;done) | simp_all[Instr.typeAssert,am hd]
   ·refine⟨_,?_,VR.tuple' (VRs.cons hy (VRs.cons (.bool _) (VRs.nil σ)))⟩
    cases d <;>first | (exfalso;exact hni _ hd rfl) | (simp[Instr.typeAssert,am hd];done) | (exfalso;simp_all;done) | simp_all[Instr.typeAssert,am hd]
 ·cases hv
theorem rZ {h:AH}(hr:HR P σ h w){o:Oper}{fr:Fr}{ρ:Operand->Value}{c:Call}(ho:o.op = .call c) (hE:OkE σ fr ρ o)
  {v:Value}(hv:mr P o fr h c=some v):∃v',(execOp ρ o).run P w = .ok (.value v') w/\VR σ v v':=by
 have arg:∀{u:Value},tX c fr=some u->∃u',c.args.map ρ = #[u']/\VR σ u u':=by
  intro u hu
  unfold tX at hu
  split at hu
  ·rename_i y hy
   cases hu
   have:c.args = #[y]:=Array.ext' hy
   refine⟨ρ y,by rw[this];simp,hE y ?_⟩
   simp[ho,Op.operands,Call.operands,this]
  ·cases hu
 have typ:∀{d:TypeDesc},eD P c=some d->∃t,c.argTypes[0]? = some t/\eD P c=P.underlying t:=by
  intro d hd
  unfold eD at hd⊢
  split at hd
  ·rename_i t ts ht
   have h0:c.argTypes[0]? = some t:=by rw[<-Array.getElem?_toList,ht];rfl
   exact⟨t,h0,rfl⟩
  ·cases hd
 unfold mr at hv
 split at hv
 ·rename_i hb
  split at hv
  ·rename_i u hu
   obtain⟨u',h1,h2⟩:=arg hu
   cases hq:eD P c with
   | none=>
    exfalso
    rw[hq]at hv
    unfold wB at hv
    split at hv <;>simp[cC,fR]at hv
   | some d=>
    obtain⟨t,ht,e⟩:=typ hq
    rw[e]at hv
    obtain⟨v',h3,h4⟩:=ua (ty:=o.type) hr ht h2 hv
    refine⟨v',?_,h4⟩
    simp only[execOp,ho,resolve,hb,h1,Sem.run_bind,Sem.run_pure,Result.andThen_ok,invoke,builtin,h3]
  ·cases hv
 ·rename_i hb
  split at hv
  ·rename_i u hu
   obtain⟨u',h1,h2⟩:=arg hu
   cases hq:eD P c with
   | none=>
    exfalso
    rw[hq]at hv
    unfold tW at hv
    split at hv <;>simp[cC,fR]at hv
   | some d=>
    obtain⟨t,ht,e⟩:=typ hq
    rw[e]at hv
    obtain⟨v',h3,h4⟩:=ub (ty:=o.type) (w:=w) ht h2 hv
    refine⟨v',?_,h4⟩
    simp only[execOp,ho,resolve,hb,h1,Sem.run_bind,Sem.run_pure,Result.andThen_ok,invoke,builtin,h3]
  ·cases hv
 ·obtain⟨h1,h2⟩:=cN (w:=w) (by simp[iO,ho]) hE hv
  exact⟨v,h1,h2⟩
theorem pq {h:AH}(hr:HR P σ h w){o:Oper}{fr:Fr}{ρ:Operand->Value}(hE:OkE σ fr ρ o){v:Value}(hv:evV P o fr h=some v) :
  ∃v',(execOp ρ o).run P w = .ok (.value v') w/\VR σ v v':=by
 have out:∀{s:Sem Value},(∃v',s.run P w = .ok v' w/\VR σ v v')->∃v',(do pure (Next.value (<-s)):Sem Next).run P w = .ok (.value v') w/\VR σ v v':=by
  rintro s ⟨v',h1,h2⟩
  exact⟨v',by simp[h1],h2⟩
 unfold evV at hv
 split at hv
 ·rename_i x ho
  cases hv
  exact⟨ρ x,by simp[execOp,ho],hE x (by simp[ho,Op.operands])⟩
 ·rename_i c a b ho
  have h1:VR σ (ev fr c) (ρ c):=hE c (by simp[ho,Op.operands])
  have h2:VR σ (ev fr a) (ρ a):=hE a (by simp[ho,Op.operands])
  have h3:VR σ (ev fr b) (ρ b):=hE b (by simp[ho,Op.operands])
  unfold ye at hv
  split at hv
  ·rename_i t ht
   cases hv
   rw[ht]at h1
   generalize hc:ρ c=c' at h1
   cases h1
   refine⟨cond t (ρ a) (ρ b),?_,by cases t <;>assumption⟩
   cases t <;>simp[execOp,ho,hc,asBool]
  ·cases hv
 ·rename_i t x ho
  obtain⟨v',h1,h2⟩:=lg (P:=P) hr (hE x (by simp[ho,Op.operands])) hv
  exact⟨v',by simp[execOp,ho,h1],h2⟩
 ·rename_i x ho
  exact t7 ho (hE x (by simp[ho,Op.operands])) hv
 ·rename_i t x ho
  obtain⟨v',h1,h2⟩:=qt (w:=w) (hE x (by simp[ho,Op.operands])) hv
  exact⟨v',by simp[execOp,ho,h1],h2⟩
 ·rename_i fn a b ho
  cases hv
  refine⟨.func fn (a.map ρ) (b.map ρ),by simp[execOp,ho,Instr.makeFunc],.func fn (by simp) ?_ (by simp) ?_⟩
  ·intro i u u' hu hu'
   rw[Array.getElem?_map,Option.map_eq_some_iff]at hu
   obtain⟨y,hy,rfl⟩:=hu
   rw[Array.getElem?_map,hy]at hu'
   cases hu'
   exact hE y (by simp only[ho,Op.operands];exact Array.mem_append.2 (.inl (Array.mem_of_getElem? hy)))
  ·intro i u u' hu hu'
   rw[Array.getElem?_map,Option.map_eq_some_iff]at hu
   obtain⟨y,hy,rfl⟩:=hu
   rw[Array.getElem?_map,hy]at hu'
   cases hu'
   exact hE y (by simp only[ho,Op.operands];exact Array.mem_append.2 (.inr (Array.mem_of_getElem? hy)))
 ·rename_i t x lo hi mx ho
  exact qu ho hE hv
 ·rename_i s x f ho
  obtain⟨v',h1,h2⟩:=kv (w:=w) (hE x (by simp[ho,Op.operands])) hv
  exact⟨v',by simp[execOp,ho,h1],h2⟩
 ·rename_i s x f ho
  obtain⟨v',h1,h2⟩:=qv (w:=w) (hE x (by simp[ho,Op.operands])) hv
  exact⟨v',by simp[execOp,ho,h1],h2⟩
 ·rename_i s x i ho
  obtain⟨v',h1,h2⟩:=kw (w:=w) (hE x (by simp[ho,Op.operands])) (hE i (by simp[ho,Op.operands])) hv
  exact⟨v',by simp[execOp,ho,h1],h2⟩
 ·rename_i s x i ho
  obtain⟨v',h1,h2⟩:=qw (w:=w) (hE x (by simp[ho,Op.operands])) (hE i (by simp[ho,Op.operands])) hv
  exact⟨v',by simp[execOp,ho,h1],h2⟩
 ·rename_i x i ho
  obtain⟨v',h1,h2⟩:=mD (P:=P) (w:=w) (hE x (by simp[ho,Op.operands])) hv
  exact⟨v',by simp[execOp,ho,h1],h2⟩
 ·rename_i t x ix ok ho
  obtain⟨v',h1,h2⟩:=oG hr (hE x (by simp[ho,Op.operands])) (hE ix (by simp[ho,Op.operands])) hv
  exact⟨v',by simp[execOp,ho,h1],h2⟩
 ·rename_i op t x y t2 ho
  exact t9 ho hE hv
 ·rename_i c ho
  exact rZ hr ho hE hv
 ·rename_i t ps ho
  have hP:PS σ (ph fr ps) ((ps.map λ(i,x)=>(i,ρ x)).toList):=lk λx hx=>hE x (by
   simp only[ho,Op.operands]
   simpa using hx)
  obtain⟨v',h1,h2⟩:=qz (w:=w) hP hv
  exact⟨v',by simp only[execOp,ho,Sem.run_bind,h1,Result.andThen_ok,Sem.run_pure],h2⟩
 ·rename_i s d x ho
  exact rY hr ho hE hv
 ·rename_i x xt t ok ho
  obtain⟨v',h1,h2⟩:=oH (xt:=xt) (w:=w) (hE x (by simp[ho,Op.operands])) hv
  exact⟨v',by simp[execOp,ho,h1],h2⟩
 ·rename_i op t x ho
  obtain⟨h1,h2⟩:=cN (w:=w) (by simp[iO,ho]) hE hv
  exact⟨v,h1,h2⟩
 ·cases hv
end
end Eva
end
section
open Go Go.RowKit
namespace Eva
section
variable {P:Program}{σ:Ren}{w:World}
def wM (w:World) (ob:Obj) (w':World):Prop:=w'.heap=w.heap.push ob/\w'.os=w.os/\w'.tape=w.tape/\w'.output=w.output
def Ren.put (σ:Ren) (n b E:Nat):Ren:=⟨λm=>if m=n then some b else σ m,λx=>if x=b then E else σ.e x⟩
theorem Ren.put_same (σ:Ren) (n b E:Nat):(σ.put n b E) n=some b:=by simp[Ren.put]
theorem Ren.put_ne (σ:Ren){n m:Nat}(b E:Nat) (h:m≠n):(σ.put n b E) m=σ m:=by simp[Ren.put,h]
theorem Ren.put_e (σ:Ren) (n b E:Nat):(σ.put n b E).e b=E:=by simp[Ren.put]
theorem Ren.put_e_ne (σ:Ren) (n E:Nat){b c:Nat}(h:c≠b):(σ.put n b E).e c=σ.e c:=by simp[Ren.put,h]
theorem AH.get_put (h:AH) (n:Nat) (o:AO):(h.put n o).get n=some o:=Tr.get_set _ _ _
theorem AH.get_put_ne (h:AH){n m:Nat}(o:AO) (e:n≠m):(h.put n o).get m=h.get m:=Tr.get_set_ne _ _ e
theorem AH.get_del (h:AH) (n:Nat):(h.del n).get n=none:=Tr.get_set _ _ _
theorem AH.get_del_ne (h:AH){n m:Nat}(e:n≠m):(h.del n).get m=h.get m:=Tr.get_set_ne _ _ e
theorem AH.get_new (h:AH) (o:AO):(h.new o).get h.next=some o:=Tr.get_set _ _ _
theorem AH.get_new_ne (h:AH){m:Nat}(o:AO) (e:h.next≠m):(h.new o).get m=h.get m:=Tr.get_set_ne _ _ e
theorem St.laid {h:AH}(hr:HR P σ h w){ob:AO}{ob':Obj}{w':World}{E:Nat}(hl:wM w ob' w')
  (ho:∀σ':Ren,Ren.le σ σ'->σ'.e w.heap.size=E->OR P σ' w.heap.size ob ob') :
  St P σ h w (σ.put h.next w.heap.size E) (h.new ob) w':=by
 obtain⟨e1,e2,e3,e4⟩:=hl
 have hn:σ h.next=none:=by
  cases hq:σ h.next with
  | none=>rfl
  | some b=>exact absurd (hr.lt _ _ hq).1 (Nat.lt_irrefl _)
 have hle:Ren.le σ (σ.put h.next w.heap.size E):=λn b hb=>by
  have:n≠h.next:=λe=>by rw[e,hn]at hb;cases hb
  have hlt:=(hr.lt n b hb).2
  exact⟨by rw[Ren.put_ne σ _ _ this];exact hb,Ren.put_e_ne σ _ _ (by omega)⟩
 have cases_:∀n b,(σ.put h.next w.heap.size E) n=some b->(n=h.next/\b=w.heap.size)\/(n≠h.next/\σ n=some b):=λn b hb=>by
  by_cases e:n=h.next
  ·subst e;rw[Ren.put_same]at hb;cases hb;exact .inl ⟨rfl,rfl⟩
  ·rw[Ren.put_ne σ _ _ e]at hb;exact .inr ⟨e,hb⟩
 have old:∀b,b<w.heap.size->w'.heap[b]? = w.heap[b]?:=λb hb=>by rw[e1,Array.getElem?_push];simp[Nat.ne_of_lt hb]
 refine⟨hle,⟨λn b hb=>?_,λn b o hb hg=>?_,λn m b o p h1 h2 g1 g2=>?_,λn hn2=>?_⟩,e2,e3,e4,by rw[e1];simp,by simp[AH.new],λn b hb h0=>?_,λn hn2 h0=>?_,λb hb _=>old b hb,λn b c e hb hg=>?_⟩
 ·rcases cases_ n b hb with⟨rfl,rfl⟩ | ⟨_,hb⟩
  ·exact⟨by simp[AH.new],by rw[e1];simp⟩
  ·have:=hr.lt n b hb;exact⟨by simp[AH.new];omega,by rw[e1];simp;omega⟩
 ·rcases cases_ n b hb with⟨rfl,rfl⟩ | ⟨hne,hb⟩
  ·rw[AH.get_new]at hg;cases hg
   exact⟨ob',by rw[e1];simp,ho _ hle (Ren.put_e _ _ _ _)⟩
  ·rw[AH.get_new_ne h _ (Ne.symm hne)]at hg
   obtain⟨o',x,y⟩:=hr.obj n b o hb hg
   exact⟨o',by rw[old b (hr.lt n b hb).2];exact x,y.mono hle (hle n b hb).2⟩
 ·rcases cases_ n b h1 with⟨rfl,rfl⟩ | ⟨n1,b1⟩
  ·rcases cases_ m _ h2 with⟨rfl,_⟩ | ⟨n2,b2⟩
   ·rfl
   ·exact absurd (hr.lt m _ b2).2 (Nat.lt_irrefl _)
  ·rcases cases_ m b h2 with⟨rfl,rfl⟩ | ⟨n2,b2⟩
   ·exact absurd (hr.lt n _ b1).2 (Nat.lt_irrefl _)
   ·rw[AH.get_new_ne h _ (Ne.symm n1)]at g1
    rw[AH.get_new_ne h _ (Ne.symm n2)]at g2
    exact hr.inj n m b o p b1 b2 g1 g2
 ·rw[AH.get_new_ne h _ (by simp[AH.new]at hn2;omega)]
  exact hr.none n (by simp[AH.new]at hn2;omega)
 ·rcases cases_ n b hb with⟨rfl,rfl⟩ | ⟨_,hb⟩
  ·exact⟨Nat.le_refl _,.inl (Nat.le_refl _)⟩
  ·rw[h0]at hb;cases hb
 ·exact AH.get_new_ne h _ (by omega)
 ·have hlt:=hr.lt n b hb
  exact⟨by rw[AH.get_new_ne h _ (by omega)];exact hg,old b hlt.2⟩
theorem dk (w:World) (ob:Obj):wM w ob { w with heap:=w.heap.push ob }:=⟨rfl,rfl,rfl,rfl⟩
theorem PR.flat_self {l:List Value}(h:aO (λv=>pl v && flat v) l=true):VRs σ l l:=
 ⟨rfl,λi v v' a b=>by
  rw[a]at b;cases b
  exact cV (ak (aQ h v (List.mem_of_getElem? a))).1⟩
theorem OR.of_vrs {l:List Value}{a:Array Value}{e:TypeId}{b:Nat}(h:VRs σ l a.toList):∀σ':Ren,Ren.le σ σ'->σ'.e b=0->OR P σ' b (.cells l e false) (.cells a e):=
 λσ' hle he=>.cells (λi v hv=>by obtain⟨v',h1,h2⟩:=(h.mono hle).get hv;exact⟨v',by simpa using h1,h2⟩) (λ_=>.inl rfl) (λi _=>by rw[he];omega)
def gP (P:Program) (σ:Ren) (w:World) (s:Sem Next) (ob:AO) (f:Nat->Value):Prop:=
 ∃v' ob' w' E,s.run P w = .ok (.value v') w'/\wM w ob' w'/\(∀σ':Ren,Ren.le σ σ'->σ'.e w.heap.size=E->OR P σ' w.heap.size ob ob')/\
  ∀(σ':Ren) n,σ' n=some w.heap.size->σ'.e w.heap.size=E->VR σ' (f n) v'
theorem dA {z:Value}{n:Nat}(h:eX z n=true):z.cells.toList.length=n/\VRs σ z.cells.toList z.cells.toList/\∀v∈z.cells.toList,flat v=true:=by
 unfold eX at h
 obtain⟨h1,h2⟩:=ak h
 exact⟨aq h1,PR.flat_self h2,λv hv=>(ak (aQ h2 v hv)).2⟩
theorem yr (l:List Value):rep 0 l = []:=rfl
theorem sc (n:Nat) (l:List Value):rep (n+1) l=l ++ rep n l:=rfl
theorem jF (n:Nat) (l:List Value):(rep n l).length=n*l.length:=by
 induction n with
 | zero=>simp[yr]
 | succ n ih=>rw[sc,List.length_append,ih,Nat.add_mul];omega
theorem jG (l:List Value) (n i:Nat) (h:i<n*l.length):(rep n l)[i]? = l[i % l.length]?:=by
 induction n generalizing i with
 | zero=>simp at h
 | succ n ih=>
  rw[sc]
  rcases Nat.lt_or_ge i l.length with hlt | hge
  ·rw[List.getElem?_append_left hlt,Nat.mod_eq_of_lt hlt]
  ·rw[List.getElem?_append_right hge,ih (i - l.length) (by rw[Nat.add_mul]at h;omega)]
   rw[Nat.mod_eq_sub_mod hge]
theorem it (n:Nat) (a:Array Value):((Array.range (n*a.size)).map (λi=>a[i % a.size]!)).toList=rep n a.toList:=by
 apply List.ext_getElem?
 intro i
 by_cases h:i<n*a.size
 ·have hp:0<a.size:=by
   rcases Nat.eq_zero_or_pos a.size with e | e
   ·rw[e]at h;simp at h
   ·exact e
  have hm:i % a.size<a.size:=Nat.mod_lt _ hp
  rw[jG _ _ _ (by simpa using h)]
  simp only[Array.toList_map,List.getElem?_map,Array.getElem?_toList]
  rw[Array.getElem?_eq_getElem (by simpa using h)]
  simp[hm]
 ·rw[List.getElem?_eq_none (by simp;omega),List.getElem?_eq_none (by rw[jF];simp;omega)]
theorem dU (ob:Obj):(newObj ob).run P w = .ok w.heap.size { w with heap:=w.heap.push ob }:=rfl
theorem mI {σ':Ren}{n b:Nat}(h:σ' n=some b):VR σ' (vj n) (.pointer (some ⟨b,0,none⟩)):=.ptr h
theorem jH {σ':Ren}{n b l K c:Nat}(h:σ' n=some b) (hK:CR K c) (hq:K % 2=1->c<=σ'.e b):VR σ' (lF l K n) (.slice (some ⟨b,0,none⟩) l c):=.sl h hK (λx _=>hq x)
theorem vt (c:Nat):cx c % 2=1->False:=λh=>by unfold cx at h;omega
theorem qA {o:Oper}{ρ:Operand->Value}{t:TypeId}(ho:o.op = .alloc t){ob:AO}{f:Nat->Value}(h:qm t (P.info? t)=some (ob,f)):gP P σ w (execOp ρ o) ob f:=by
 unfold qm at h
 split at h
 ·rename_i i hi
  split at h
  ·rename_i z hz
   obtain⟨h1,h2⟩:=ae h
   cases h2
   obtain⟨_,hv,_⟩:=dA (σ:=σ) h1
   refine⟨.pointer (some ⟨w.heap.size,0,none⟩),.cells z.cells t,_,0,?_,dk w _,OR.of_vrs hv,λσ' n hn _=>mI hn⟩
   simp[execOp,ho,Instr.alloc,dv hi hz,newVar,newRow,dU]
  ·cases h
 ·cases h
theorem uc {o:Oper}{ρ:Operand->Value}{t:TypeId}{x:Operand}(ho:o.op = .box t x){u:Value}(hx:VR σ u (ρ x)){ob:AO}{f:Nat->Value}(h:AC t u=some (ob,f)) :
  gP P σ w (execOp ρ o) ob f:=by
 unfold AC at h
 obtain⟨h1,h2⟩:=ae h
 cases h2
 refine⟨.pointer (some ⟨w.heap.size,0,none⟩),.cells (ρ x).cells t,_,0,?_,dk w _,OR.of_vrs (hx.cells (ld h1)),λσ' n hn _=>mI hn⟩
 simp[execOp,ho,Instr.box,newVar,newRow,dU]
theorem jI {o:Oper}{ρ:Operand->Value}{t:TypeId}{len:Nat}{ps:List (Nat×Value)}{ops:Array (Nat×Operand)}(ho:o.op = .buildSlice t len ops)
  (hP:PS σ ps ((ops.map λ(i,x)=>(i,ρ x)).toList)){ob:AO}{f:Nat->Value}(h:eN P (P.underlying t) len ps=some (ob,f)):gP P σ w (execOp ρ o) ob f:=by
 unfold eN at h
 split at h
 ·rename_i e hd
  split at h
  ·rename_i i hi
   split at h
   ·rename_i z hz
    obtain⟨h1,h2⟩:=ae h
    obtain⟨h3,h4⟩:=ak h1
    have h3:=cW h3
    obtain⟨hlen,hv,_⟩:=dA (σ:=σ) h4
    have hzs:z.cells.size=i.size:=by simpa using hlen
    unfold pi at h2
    split at h2
    ·rename_i c hfill
     obtain⟨h5,h6⟩:=ae h2
     cases h6
     have hrange:VRs σ (rep len z.cells.toList) ((Array.range (len*i.size)).map (λj=>z.cells[j % z.cells.size]!)).toList:=by
      rw[<-hzs,it]
      refine⟨rfl,λj u u' a b=>?_⟩
      rw[a]at b;cases b
      have hj:j<len*z.cells.toList.length:=by rw[<-jF];exact(List.getElem?_eq_some_iff.1 a).1
      rw[jG _ _ _ hj]at a
      exact hv.2 _ u u a a
     obtain⟨c1,c',he,hf,hc⟩:=eR (place':=λk=>some (k*i.size,i.size)) (λk x hx=>hx) ps _ _ _ hP hrange hfill
     cases he
     refine⟨.slice (some ⟨w.heap.size,0,none⟩) len len,.cells c' e,_,0,?_,dk w _,OR.of_vrs hc,λσ' n hn _=>jH hn (CR.cx _) (λh=>(vt _ h).elim)⟩
     have hbig:¬2 ^ 24<len*i.size:=by omega
     by_cases h0:len*i.size=0
     ·have hf':Instr.fill (λk=>some (k*i.size,i.size)) #[] (ops.map λ(i,x)=>(i,ρ x)).toList=some c':=by
       rw[h0]at hf;rw[show Array.range 0 = #[] from rfl,Array.map_empty]at hf;exact hf
      simp only[execOp,ho,Instr.buildSlice,Sem.run_bind,am hd,Result.andThen_ok,aT hi,h0,if_true,Sem.run_pure,gt_iff_lt,Nat.not_lt_zero,if_false]
      simp only[show Array.range 0 = #[] from rfl,Array.map_empty,hf',newRow,Sem.run_bind,dU,Result.andThen_ok,Sem.run_pure]
     ·simp only[execOp,ho,Instr.buildSlice,Sem.run_bind,am hd,Result.andThen_ok,aT hi,h0,if_false,Sem.run_pure,gt_iff_lt,hbig,dv hi hz,hf,newRow,dU]
    ·cases h2
   ·cases h
  ·cases h
 ·cases h
theorem ud {o:Oper}{ρ:Operand->Value}{t:TypeId}{r:Option Operand}(ho:o.op = .makeMap t r){fr:Fr}(hr:∀x,r=some x->VR σ (ev fr x) (ρ x)){ob:AO}{f:Nat->Value}
  (h:AD (P.underlying t) (r.map (ev fr))=some (ob,f)):gP P σ w (execOp ρ o) ob f:=by
 have hmap:∀σ':Ren,Ren.le σ σ'->σ'.e w.heap.size=0->OR P σ' w.heap.size (.map [] 0) (.map #[] 0):=λ_ _ _=>.map rfl (λi k v b h=>by simp at h)
 unfold AD at h
 split at h
 ·rename_i kt e hd hr0
  cases h
  have:r=none:=by cases r <;>simp_all
  subst this
  exact⟨.map (some w.heap.size),_,_,0,by simp[execOp,ho,Instr.makeMap,dU],dk w _,hmap,λσ' n hn _=>.map hn⟩
 ·rename_i kt e y hd hr0
  split at h
  ·rename_i n hn
   cases h
   cases r with
   | none=>simp at hr0
   | some x=>
    simp at hr0;subst hr0
    obtain⟨k,hk⟩:=bH (hr x rfl) hn
    exact⟨.map (some w.heap.size),_,_,0,by simp[execOp,ho,Instr.makeMap,am hd,hk,asInt,asIntOf,dU],dk w _,hmap,λσ' n hn _=>.map hn⟩
  ·cases h
 ·cases h
theorem mJ {n:Nat}(h:n<1000000):IntKind.i64.wrap (n:Int)=n:=by
 exact IntWalk.i64_in _ (by omega)
theorem kx {o:Oper}{ρ:Operand->Value}{t:TypeId}{x y:Operand}(ho:o.op = .makeSlice t x y){u v:Value}(hx:VR σ u (ρ x)) (hy:VR σ v (ρ y)){ob:AO}{f:Nat->Value}
  (h:ed P (P.underlying t) (bE u) (bE v)=some (ob,f)):gP P σ w (execOp ρ o) ob f:=by
 unfold ed at h
 split at h
 ·rename_i e l c hd hl hc
  obtain⟨k1,e1⟩:=bH hx hl
  obtain⟨k2,e2⟩:=bH hy hc
  unfold vk at h
  split at h
  ·rename_i i hi
   split at h
   ·rename_i z hz
    obtain⟨h1,h2⟩:=ae h
    cases h2
    obtain⟨h1,h3⟩:=ak h1
    obtain⟨h1,h4⟩:=ak h1
    obtain⟨h5,h6⟩:=ak h1
    have h4:=cW h4;have h5:=fe h5;have h6:=cW h6
    obtain⟨hlen,hv,_⟩:=dA (σ:=σ) h3
    have hzs:z.cells.size=i.size:=by simpa using hlen
    have wl:IntKind.i64.wrap (l:Int)=l:=mJ (by omega)
    have wc:IntKind.i64.wrap (c:Int)=c:=mJ (by omega)
    have hb:i.bytes*c<=10000*1000000:=Nat.mul_le_mul (by omega) (by omega)
    have hrange:VRs σ (rep c z.cells.toList) ((Array.range (c*i.size)).map (λj=>z.cells[j % z.cells.size]!)).toList:=by
     rw[<-hzs,it]
     refine⟨rfl,λj u u' a b=>?_⟩
     rw[a]at b;cases b
     have hj:j<c*z.cells.toList.length:=by rw[<-jF];exact(List.getElem?_eq_some_iff.1 a).1
     rw[jG _ _ _ hj]at a
     exact hv.2 _ u u a a
    refine⟨.slice (some ⟨w.heap.size,0,none⟩) l c,.cells ((Array.range (c*i.size)).map (λj=>z.cells[j % z.cells.size]!)) e,_,0,?_,dk w _,OR.of_vrs hrange,λσ' n hn _=>jH hn (CR.cx _) (λh=>(vt _ h).elim)⟩
    have hbi:¬(2 ^ 48:Int)<(i.bytes:Int)*(c:Int):=by
     have:((i.bytes*c:Nat):Int)<=10000000000:=by omega
     rw[Int.natCast_mul]at this
     omega
    have htl:((c:Int)<0 || decide ((i.bytes:Int)*(c:Int) > 2 ^ 48))=false:=by simp;omega
    have hcond:¬(((c:Int)<0 || decide ((i.bytes:Int)*(c:Int) > 2 ^ 48))=true\/(l:Int)<0\/(l:Int) > (c:Int)):=by
     rw[htl];simp;omega
    have hroom:(askRoom (c*i.bytes)).run P w = .ok () w:=by
     unfold askRoom roomBytes
     have:¬c*i.bytes > 2 ^ 47:=by rw[Nat.mul_comm];omega
     simp[this]
    have hcond':(((c:Int)<0 || decide ((i.bytes:Int)*(c:Int) > 2 ^ 48)) || decide ((l:Int)<0) || decide ((l:Int) > (c:Int)))=false:=by
     rw[htl];simp;omega
    by_cases h0:c*i.size=0
    ·have hr0:(Array.range (c*i.size)).map (λj=>z.cells[j % z.cells.size]!) = #[]:=by rw[h0,show Array.range 0 = #[] from rfl,Array.map_empty]
     rw[hr0]
     simp only[execOp,ho,Instr.makeSlice,Sem.run_bind,am hd,Result.andThen_ok,e1,e2,asInt,asIntOf,Sem.run_pure,fU hi,wl,wc,hcond',Bool.false_eq_true,if_false,Int.toNat_natCast,hroom,aT hi,h0,if_true]
     simp only[show Array.range 0 = #[] from rfl,Array.map_empty,newRow,Sem.run_bind,dU,Result.andThen_ok,Sem.run_pure]
    ·simp only[execOp,ho,Instr.makeSlice,Sem.run_bind,am hd,Result.andThen_ok,e1,e2,asInt,asIntOf,Sem.run_pure,fU hi,wl,wc,hcond',Bool.false_eq_true,if_false,Int.toNat_natCast,hroom,aT hi,h0,dv hi hz,newRow,dU]
   ·cases h
  ·cases h
 ·cases h
theorem qB {o:Oper}{ρ:Operand->Value}{s d:TypeId}{x:Operand}(ho:o.op = .convert s d x){u:Value}(hx:VR σ u (ρ x)){ob:AO}{f:Nat->Value}
  (h:qn P (P.underlying s) (P.underlying d) u=some (ob,f)):gP P σ w (execOp ρ o) ob f:=by
 unfold qn at h
 split at h
 ·rename_i e b hs hd
  split at h
  ·rename_i i0 he hi0
   obtain⟨hs1,h⟩:=ae h
   have hs1:=aq hs1
   cases h
   have hρ:ρ x = .string b:=by generalize ρ x=x' at hx;cases hx;rfl
   have hconv:(convert s d (.string b)).run P w=(Conv.stringToBytes e b).run P w:=by simp[convert,am hs,am hd,am he]
   let cap:=(Question.appendCap b.size 0 e).cut (w.tape w.drawn (.appendCap b.size 0 e))
   have hcap:b.size<=cap:=Nat.le_add_right _ _
   let arr:Array Value:=b.data.map (λc=>Value.int .u8 c.toNat) ++ Array.replicate (cap - b.size) (.int .u8 0)
   have hfr:∀(W:World) (n:Nat),W.heap=w.heap.push (.cells arr e)->(freeze ⟨w.heap.size,n,none⟩ 1).run P W = .ok () { W with heap:=w.heap.push (.cells arr e (n,n+1)) }:=by
    intro W n hW
    have e1:(W.heap.modify w.heap.size fun | .cells c elem (lo,hi)=>.cells c elem (if lo == hi then(n,n+1) else(min lo n,max hi (n+1))) | o=>o)=w.heap.push (.cells arr e (n,n+1)):=by
     rw[hW]
     apply Array.ext
     ·simp
     ·intro i h1 h2
      rw[Array.getElem_modify]
      rw[Array.getElem_push,Array.getElem_push]
      by_cases hi:i<w.heap.size
      ·have:¬w.heap.size=i:=by omega
       simp[hi,this]
      ·have:w.heap.size=i:=by simp at h2;omega
       simp[this]
    simp only[freeze,Sem.run,World.freeze,Nat.one_ne_zero,if_false]
    congr 2
   refine⟨.slice (some ⟨w.heap.size,0,none⟩) b.size cap,.cells arr e (arr.size,arr.size+1),{ w with drawn:=w.drawn+1,heap:=w.heap.push (.cells arr e (arr.size,arr.size+1)) },cap,?_,⟨rfl,rfl,rfl,rfl⟩,λσ' hle hE=>?_,λσ' n hn hE=>jH hn (CR.cl hcap) (λ_=>by rw[hE];exact Nat.le_refl _)⟩
   ·have hW:=hfr { w with drawn:=w.drawn+1,heap:=w.heap.push (.cells arr e) } arr.size rfl
    have hrow:(newRow e arr).run P { w with drawn:=w.drawn+1 } = .ok ⟨w.heap.size,0,none⟩ { w with drawn:=w.drawn+1,heap:=w.heap.push (.cells arr e) }:=rfl
    have hch:(choose (.appendCap b.size 0 e)).run P w = .ok cap { w with drawn:=w.drawn+1 }:=by
     simp[choose,Sem.run,Question.forced,cap]
    have hmark:(markStringish ⟨w.heap.size,0,none⟩).run P { w with drawn:=w.drawn+1,heap:=w.heap.push (.cells arr e) } = .ok () { w with drawn:=w.drawn+1,heap:=w.heap.push (.cells arr e (arr.size,arr.size+1)) }:=by
     have hsh:(shape w.heap.size).run P { w with drawn:=w.drawn+1,heap:=w.heap.push (.cells arr e) } = .ok (some (e,arr.size)) { w with drawn:=w.drawn+1,heap:=w.heap.push (.cells arr e) }:=by
      simp[shape,Sem.run,World.shape?]
     simp only[markStringish,Sem.run_bind,hsh,Result.andThen_ok]
     exact hW
    have hsb:(Conv.stringToBytes e b).run P w = .ok (.slice (some ⟨w.heap.size,0,none⟩) b.size cap) { w with drawn:=w.drawn+1,heap:=w.heap.push (.cells arr e (arr.size,arr.size+1)) }:=by
     simp only[Conv.stringToBytes,Sem.run_bind,hch,Result.andThen_ok]
     rw[show(b.data.map (λc=>Value.int .u8 c.toNat) ++ Array.replicate (cap - b.size) (Value.int .u8 0))=arr from rfl,hrow]
     simp only[Result.andThen_ok,hmark,Sem.run_pure]
    simp only[execOp,ho,Sem.run_bind,hρ,hconv,hsb,Result.andThen_ok,Sem.run_pure]
   ·refine .cells (λi v hv=>?_) (λ_=>.inr (Nat.le_refl _)) (λi hi=>?_)
    ·rw[List.getElem?_map,Option.map_eq_some_iff]at hv
     obtain⟨c,hc,rfl⟩:=hv
     refine⟨_,?_,.int _ _⟩
     have hi:i<b.data.size:=by have:=(List.getElem?_eq_some_iff.1 hc).1;simpa using this
     simp only[arr]
     rw[Array.getElem?_append_left (by simpa using hi),Array.getElem?_map]
     rw[<-Array.getElem?_toList,hc]
     rfl
    ·have:arr.size=b.size+(cap - b.size):=by simp[arr]
     have hi1:i.size=1:=by rw[hi0]at hi;cases hi;exact hs1
     rw[hE,hi1,this]
     omega
  ·cases h
 ·cases h
theorem qC {o:Oper}{ρ:Operand->Value}{t:TypeId}{x:Operand}(ho:o.op = .range t x){u:Value}(hx:VR σ u (ρ x)){ob:AO}{f:Nat->Value}
  (h:qp (P.underlying t) u=some (ob,f)):gP P σ w (execOp ρ o) ob f:=by
 unfold qp at h
 split at h
 ·rename_i s hd
  cases h
  have hρ:ρ x = .string s:=by generalize ρ x=x' at hx;cases hx;rfl
  refine⟨.pointer (some ⟨w.heap.size,0,none⟩),.stringIter s 0,_,0,?_,dk w _,λ_ _ _=>.iter s 0,λσ' n hn _=>mI hn⟩
  simp[execOp,ho,Instr.range,hρ,am hd,dU]
 ·cases h
theorem pt {o:Oper}{fr:Fr}{ρ:Operand->Value}(hE:OkE σ fr ρ o){ob:AO}{f:Nat->Value}(h:evA P o fr=some (ob,f)):gP P σ w (execOp ρ o) ob f:=by
 unfold evA at h
 split at h
 ·rename_i t ho;exact qA ho h
 ·rename_i t x ho;exact uc ho (hE x (by simp[ho,Op.operands])) h
 ·rename_i t len ps ho
  have hP:PS σ (ph fr ps) ((ps.map λ(i,x)=>(i,ρ x)).toList):=lk λx hx=>hE x (by
   simp only[ho,Op.operands]
   simpa using hx)
  exact jI ho hP h
 ·rename_i t r ho;exact ud ho (λx hx=>hE x (by simp[ho,Op.operands,hx])) h
 ·rename_i t l c ho;exact kx ho (hE l (by simp[ho,Op.operands])) (hE c (by simp[ho,Op.operands])) h
 ·rename_i s d x ho;exact qB ho (hE x (by simp[ho,Op.operands])) h
 ·rename_i t x ho;exact qC ho (hE x (by simp[ho,Op.operands])) h
 ·cases h
end
end Eva
end
section
open Go Go.RowKit
namespace Eva
section
variable {P:Program}{σ:Ren}{w:World}
structure ue (b:Nat) (w w':World):Prop where
 os:w'.os=w.os
 tape:w'.tape=w.tape
 output:w'.output=w.output
 size:w'.heap.size=w.heap.size
 else_:∀x,x≠b->w'.heap[x]? = w.heap[x]?
theorem St.upd' {h h':AH}(hr:HR P σ h w){n b:Nat}(hn:σ n=some b){o0:AO}(hg:h.get n=some o0) (hro:∀c e,o0≠.cells c e true){w':World}{o1:AO}{o':Obj}
  (e1:h'.next=h.next) (e2:h'.get n=some o1) (e3:∀m,m≠n->h'.get m=h.get m)
  (hs:ue b w w') (hb:w'.heap[b]? = some o') (ho:OR P σ b o1 o'):St P σ h w σ h' w':=by
 have far:∀m c o,σ m=some c->h.get m=some o->m≠n->c≠b:=λm c o h1 h2 h3 e=>h3 (hr.inj m n b o o0 (e ▸ h1) hn h2 hg)
 refine⟨Ren.le_refl σ,⟨λm c x=>by rw[hs.size,e1];exact hr.lt m c x,λm c o x y=>?_,λm k c o p x1 x2 y1 y2=>?_,λm hm=>?_⟩,hs.os,hs.tape,hs.output,by rw[hs.size];exact Nat.le_refl _,by rw[e1];exact Nat.le_refl _,
  (λm c x y=>by rw[y]at x;cases x),λm _ hm=>?_,λc hc hf=>hs.else_ c (λe=>hf n (e ▸ hn)),λm c l e x y=>?_⟩
 ·by_cases e:m=n
  ·subst e
   rw[hn]at x;cases x
   rw[e2]at y;cases y
   exact⟨o',hb,ho⟩
  ·rw[e3 m e]at y
   obtain⟨q,q1,q2⟩:=hr.obj m c o x y
   exact⟨q,by rw[hs.else_ c (far m c o x y e)];exact q1,q2⟩
 ·have g:∀j q,h'.get j=some q->∃q',h.get j=some q':=λj q hj=>by
   by_cases e:j=n
   ·subst e;exact⟨o0,hg⟩
   ·rw[e3 j e]at hj;exact⟨q,hj⟩
  obtain⟨q1,r1⟩:=g m o y1
  obtain⟨q2,r2⟩:=g k p y2
  exact hr.inj m k c q1 q2 x1 x2 r1 r2
 ·rw[e1]at hm
  have:m≠n:=λe=>by have:=(hr.lt n b hn).1;subst e;exact absurd hm (Nat.not_le_of_lt this)
  rw[e3 m this];exact hr.none m hm
 ·have:m≠n:=λe=>by subst e;rw[hn]at hm;cases hm
  exact e3 m this
 ·have hne:m≠n:=λe1=>by subst e1;rw[hg]at y;cases y;exact hro _ _ rfl
  exact⟨by rw[e3 m hne];exact y,hs.else_ c (far m c _ x y hne)⟩
theorem St.upd {h:AH}(hr:HR P σ h w){n b:Nat}(hn:σ n=some b){o0:AO}(hg:h.get n=some o0) (hro:∀c e,o0≠.cells c e true){w':World}{o1:AO}{o':Obj}
  (hs:ue b w w') (hb:w'.heap[b]? = some o') (ho:OR P σ b o1 o'):St P σ h w σ (h.put n o1) w':=
 St.upd' hr hn hg hro rfl (AH.get_put h n o1) (λm hm=>AH.get_put_ne h o1 (Ne.symm hm)) hs hb ho
theorem St.regrow {h:AH}(hr:HR P σ h w){n b:Nat}(hn:σ n=some b){o0:AO}(hg:h.get n=some o0) (hro:∀c e,o0≠.cells c e true){w':World}{o1:AO}{o':Obj}
  (hs:ue b w w') (hb:w'.heap[b]? = some o') (ho:∀σ':Ren,Ren.le σ σ'->σ'.e b=σ.e b->OR P σ' b o1 o') :
  St P σ h w (σ.put h.next b (σ.e b)) ((h.del n).new o1) w':=by
 have hnn:n≠h.next:=λe=>by have:=(hr.lt n b hn).1;omega
 have h0:σ h.next=none:=by
  cases hq:σ h.next with
  | none=>rfl
  | some c=>exact absurd (hr.lt _ _ hq).1 (Nat.lt_irrefl _)
 have hle:Ren.le σ (σ.put h.next b (σ.e b)):=λm c hc=>by
  have:m≠h.next:=λe=>by rw[e,h0]at hc;cases hc
  refine⟨by rw[Ren.put_ne σ _ _ this];exact hc,?_⟩
  by_cases e:c=b
  ·subst e;exact Ren.put_e _ _ _ _
  ·exact Ren.put_e_ne _ _ _ e
 have cases_:∀m c,(σ.put h.next b (σ.e b)) m=some c->(m=h.next/\c=b)\/(m≠h.next/\σ m=some c):=λm c hc=>by
  by_cases e:m=h.next
  ·subst e;rw[Ren.put_same]at hc;cases hc;exact .inl ⟨rfl,rfl⟩
  ·rw[Ren.put_ne σ _ _ e]at hc;exact .inr ⟨e,hc⟩
 have far:∀m c o,σ m=some c->h.get m=some o->m≠n->c≠b:=λm c o h1 h2 h3 e=>h3 (hr.inj m n b o o0 (e ▸ h1) hn h2 hg)
 have gnew:((h.del n).new o1).get h.next=some o1:=AH.get_new (h.del n) o1
 have gn:((h.del n).new o1).get n=none:=by
  rw[AH.get_new_ne (h.del n) o1 (show(h.del n).next≠n from Ne.symm hnn)];exact AH.get_del h n
 have gelse:∀m,m≠n->m≠h.next->((h.del n).new o1).get m=h.get m:=λm e1 e2=>by
  rw[AH.get_new_ne (h.del n) o1 (show(h.del n).next≠m from Ne.symm e2)];exact AH.get_del_ne h (Ne.symm e1)
 have hnx:((h.del n).new o1).next=h.next+1:=rfl
 refine⟨hle,⟨λm c x=>?_,λm c o x y=>?_,λm k c o p x1 x2 y1 y2=>?_,λm hm=>?_⟩,hs.os,hs.tape,hs.output,by rw[hs.size];exact Nat.le_refl _,by rw[hnx];omega,
  λm c x y=>?_,λm hlt hm=>?_,λc hc hf=>hs.else_ c (λe=>hf n (e ▸ hn)),λm c l e x y=>?_⟩
 ·rw[hs.size,hnx]
  rcases cases_ m c x with⟨rfl,rfl⟩ | ⟨_,x⟩
  ·exact⟨by omega,(hr.lt n _ hn).2⟩
  ·have:=hr.lt m c x;exact⟨by omega,this.2⟩
 ·rcases cases_ m c x with⟨rfl,rfl⟩ | ⟨e,x⟩
  ·rw[gnew]at y;cases y
   exact⟨o',hb,ho _ hle (Ren.put_e _ _ _ _)⟩
  ·by_cases e1:m=n
   ·subst e1;rw[gn]at y;cases y
   ·rw[gelse m e1 e]at y
    obtain⟨q,q1,q2⟩:=hr.obj m c o x y
    exact⟨q,by rw[hs.else_ c (far m c o x y e1)];exact q1,q2.mono hle (hle m c x).2⟩
 ·rcases cases_ m c x1 with⟨rfl,rfl⟩ | ⟨e1,z1⟩
  ·rcases cases_ k _ x2 with⟨rfl,_⟩ | ⟨e2,z2⟩
   ·rfl
   ·by_cases e3:k=n
    ·subst e3;rw[gn]at y2;cases y2
    ·rw[gelse k e3 e2]at y2;exact absurd rfl (far k _ p z2 y2 e3)
  ·rcases cases_ k c x2 with⟨rfl,rfl⟩ | ⟨e2,z2⟩
   ·by_cases e3:m=n
    ·subst e3;rw[gn]at y1;cases y1
    ·rw[gelse m e3 e1]at y1;exact absurd rfl (far m _ o z1 y1 e3)
   ·by_cases e3:m=n
    ·subst e3;rw[gn]at y1;cases y1
    ·by_cases e4:k=n
     ·subst e4;rw[gn]at y2;cases y2
     ·rw[gelse m e3 e1]at y1
      rw[gelse k e4 e2]at y2
      exact hr.inj m k c o p z1 z2 y1 y2
 ·rw[hnx]at hm
  by_cases e:m=n
  ·subst e;exact gn
  ·rw[gelse m e (by omega)];exact hr.none m (by omega)
 ·rcases cases_ m c x with⟨rfl,rfl⟩ | ⟨_,x⟩
  ·exact⟨Nat.le_refl _,.inr ⟨n,hn⟩⟩
  ·rw[y]at x;cases x
 ·have:m≠n:=λe=>by subst e;rw[hn]at hm;cases hm
  exact gelse m this (by omega)
 ·have hne:m≠n:=λe1=>by subst e1;rw[hg]at y;cases y;exact hro _ _ rfl
  have hlt:=(hr.lt m c x).1
  exact⟨by rw[gelse m hne (by omega)];exact y,hs.else_ c (far m c _ x y hne)⟩
def fW:Array Value->Nat->List Value->Array Value
 | c,_,[]=>c
 | c,o,v :: r=>fW (c.setIfInBounds o v) (o+1) r
theorem dB:∀(vs:List Value) (c:Array Value) (o:Nat),(fW c o vs).size=c.size
 | [],c,o=>rfl
 | v :: r,c,o=>by rw[fW,dB r];simp
theorem gQ:∀(vs:List Value) (c:Array Value) (o:Nat),o+vs.length<=c.size->(fW c o vs).toList=c.toList.take o ++ vs ++ c.toList.drop (o+vs.length)
 | [],c,o,_=>by simp[fW]
 | v :: r,c,o,h=>by
  rw[fW,gQ r _ _ (by simp at h⊢;omega)]
  have:=fV o (v :: r) 0 c (by simpa using h)
  simp only[List.zipIdx_cons,List.foldl_cons,Nat.add_zero,Nat.zero_add]at this
  rw[<-this]
  have h2:=fV (o+1) r 0 (c.setIfInBounds o v) (by simp at h⊢;omega)
  rw[Nat.add_zero]at h2
  rw[<-h2]
  congr 1
  have:∀(l:List Value) (k:Nat) (A:Array Value),(l.zipIdx k).foldl (λ(cs:Array Value) (p:Value×Nat)=>cs.setIfInBounds (o+1+p.2) p.1) A=(l.zipIdx (k+1)).foldl (λ(cs:Array Value) (p:Value×Nat)=>cs.setIfInBounds (o+p.2) p.1) A:=by
   intro l
   induction l with
   | nil=>intro k A;rfl
   | cons x l ih=>intro k A;simp only[List.zipIdx_cons,List.foldl_cons];rw[ih,show o+1+k=o+(k+1) by omega]
  exact this r 0 _
theorem heap_setCell (w:World) (a:Addr) (v:Value):(w.setCell a v).heap.size=w.heap.size:=by simp[World.setCell]
theorem fg (b:Nat):∀(vs:List Value) (o:Nat) (w:World),ue b w (w.setCells b o vs)
 | [],o,w=>⟨rfl,rfl,rfl,rfl,λ_ _=>rfl⟩
 | v :: r,o,w=>by
  have ih:=fg b r (o+1) (w.setCell ⟨b,o,none⟩ v)
  refine⟨ih.os.trans rfl,ih.tape.trans rfl,ih.output.trans rfl,ih.size.trans (heap_setCell _ _ _),λx hx=>(ih.else_ x hx).trans ?_⟩
  simp only[World.setCell]
  rw[Array.getElem?_modify]
  simp[Ne.symm hx]
theorem gR (b:Nat){e:TypeId}{f:Nat×Nat}:∀(vs:List Value) (o:Nat) (w:World) (c:Array Value),w.heap[b]? = some (.cells c e f)->
  (w.setCells b o vs).heap[b]? = some (.cells (fW c o vs) e f)
 | [],o,w,c,h=>h
 | v :: r,o,w,c,h=>by
  refine gR b r (o+1) _ _ ?_
  simp only[World.setCell]
  rw[Array.getElem?_modify]
  simp[h]
theorem PR.take {c c':List Value}(h:PR σ c c') (n:Nat):PR σ (c.take n) (c'.take n):=λi v hv=>by
 rw[List.getElem?_take]at hv⊢
 split at hv
 ·rename_i hi;simp only[hi,if_true];exact h i v hv
 ·cases hv
theorem PR.drop {c c':List Value}(h:PR σ c c') (n:Nat):PR σ (c.drop n) (c'.drop n):=λi v hv=>by
 rw[List.getElem?_drop]at hv⊢;exact h _ v hv
theorem PR.append {a a' b b':List Value}(ha:PR σ a a') (hl:a.length=a'.length) (hb:PR σ b b'):PR σ (a ++ b) (a' ++ b'):=λi v hv=>by
 rcases Nat.lt_or_ge i a.length with hlt | hge
 ·rw[List.getElem?_append_left hlt]at hv
  rw[List.getElem?_append_left (by omega)];exact ha i v hv
 ·rw[List.getElem?_append_right hge]at hv
  rw[List.getElem?_append_right (by omega),<-hl];exact hb _ v hv
theorem yu {v v':Value}(h:VR σ v v') (hf:flat v=true):v'.oneCell' = true:=by cases h <;>first | rfl | (simp[flat]at hf;done) | (simp[flat,oF]at hf)
theorem BW {vs vs':List Value}(h:VRs σ vs vs') (hf:aO flat vs=true):∀v'∈vs',v'.oneCell' = true:=λv' hm=>by
 obtain⟨i,hi,e⟩:=List.getElem_of_mem hm
 have h1:vs'[i]? = some v':=by rw[List.getElem?_eq_getElem hi,e]
 have hi2:i<vs.length:=by rw[h.1];exact hi
 exact yu (h.2 i _ _ (List.getElem?_eq_getElem hi2) h1) (aQ hf _ (List.getElem_mem hi2))
theorem mK {b:Nat}{c:Array Value}{e:TypeId}{f:Nat×Nat}(hb:w.heap[b]? = some (.cells c e f)) (hf:f.1=f.2\/c.size<=f.1) (o:Nat) (ho:o<c.size):w.frozen? ⟨b,o,none⟩=false:=by
 obtain⟨lo,hi⟩:=f
 unfold World.frozen?
 simp only[hb]
 simp only at hf
 simp;omega
theorem pu {b o:Nat}{c:Array Value}{e:TypeId}{f:Nat×Nat}{vs:List Value}(hb:w.heap[b]? = some (.cells c e f)) (hf:f.1=f.2\/c.size<=f.1) (hl:o+vs.length<=c.size)
  (h1:∀v∈vs,v.oneCell' = true):(storeCells ⟨b,o,none⟩ vs).run P w = .ok () (w.setCells b o vs):=by
 have:=run_storeCells_cells (P:=P) b o vs 0 w (λj hj=>by
  rw[qs hb,Array.getElem?_eq_getElem (by omega)];rfl) (λj hj=>mK hb hf _ (by omega)) h1
 simpa using this
theorem cX {h h':AH}(hr:HR P σ h w){n b off:Nat}(hn:σ n=some b){vs vs':List Value}(hv:VRs σ vs vs') (hs:cL h ⟨n,off,none⟩ vs=some h') :
  (storeCells ⟨b,off,none⟩ vs').run P w = .ok () (w.setCells b off vs')/\St P σ h w σ h' (w.setCells b off vs'):=by
 unfold cL at hs
 split at hs
 ·rename_i c e hsp hg
  obtain⟨h1,h2⟩:=ae hs
  split at h2
  ·rename_i c1 hset
   cases h2
   obtain⟨c',f',hb,hp,hf,_,hroom⟩:=gO hr hn (c:=c) (e:=e) (f:=false) (by unfold aS;simp at hg⊢;rw[hg])
   have hf:=hf rfl
   have e1:=lY hset
   have hpl:=hp.le
   cases vs with
   | nil=>
    have:vs' = []:=List.eq_nil_of_length_eq_zero (by simpa using hv.1.symm)
    subst this
    refine⟨rfl,?_⟩
    have:c1=c:=by rw[e1];simp
    subst this
    exact St.upd hr hn hg (λ_ _ e=>by cases e) ⟨rfl,rfl,rfl,rfl,λ_ _=>rfl⟩ hb (.cells (λi v hv=>by obtain⟨v',h1,h2⟩:=hp i v hv;exact⟨v',by simpa using h1,h2⟩) (λ_=>hf) hroom)
   | cons v0 vs=>
    have hfit:=wJ c off (v0 :: vs) c1 hset (by simp)
    have hlen:=hv.1
    have hl':off+vs'.length<=c'.size:=by simp at hpl;omega
    refine⟨pu hb hf hl' (BW hv h1),?_⟩
    refine St.upd hr hn hg (λ_ _ e=>by cases e) (fg b vs' off w) (gR b vs' off w c' hb) (.cells (λi v hi=>?_) (λ_=>by rw[dB];exact hf) (by rw[dB];exact hroom))
    have hpr:PR σ c1 (fW c' off vs').toList:=by
     rw[e1,gQ _ _ _ hl',<-hlen]
     refine PR.append (PR.append (hp.take off) ?_ (PR.of_vrs hv)) ?_ (hp.drop _)
     ·simp at hpl⊢;omega
     ·simp at hpl hlen⊢;omega
    obtain⟨v',q1,q2⟩:=hpr i v hi
    exact⟨v',by simpa using q1,q2⟩
  ·cases h2
 ·cases hs
end
end Eva
end
section
open Go Go.RowKit
namespace Eva
section
variable {P:Program}{σ:Ren}{w:World}
def yv (P:Program) (σ:Ren) (h:AH) (w:World) (s:Sem Value) (v:Value) (h':AH):Prop:=
 ∃v' w' σ',s.run P w = .ok v' w'/\St P σ h w σ' h' w'/\VR σ' v v'
theorem pv {h:AH}(hr:HR P σ h w){size n:Nat}{x x':Value}(hx:VR σ x x'){l:List Value}(hl:eL h size n x=some l) :
  ∃l':List Value,(∀W:World,W.heap=w.heap->(Builtin.firstCells size n x').run P W = .ok l'.toArray W)/\VRs σ l l':=by
 unfold eL at hl
 split at hl
 ·rename_i a len K
  cases h0:Nat.beq (n*size) 0 with
  | true=>
   rw[h0]at hl;cases hl
   have e0:=aq h0
   cases hx with
   | sl hn hK hq=>exact⟨[],λW _=>by simp[Builtin.firstCells,e0,mC],VRs.nil σ⟩
   | far=>exact⟨[],λW _=>by simp[Builtin.firstCells,e0];rfl,VRs.nil σ⟩
  | false=>
   rw[h0]at hl
   cases hx with
   | sl hn hK hq=>
    rcases mH hr hn hl with⟨c',e',f',hb',hle,hv⟩ | ⟨h0',_⟩
    ·refine⟨_,λW hW=>?_,hv⟩
     have e2:=lX (P:=P) (w:=W) (by rw[hW];exact hb') hle
     simpa only[Builtin.firstCells]using e2
    ·rw[h0']at h0;cases h0
   | far=>simp[iM,cond_false]at hl
 ·cases hl
  cases hx
  exact⟨[],λW _=>by simp[Builtin.firstCells],VRs.nil σ⟩
 ·rename_i s
  cases hl
  cases hx
  refine⟨(s.data.toList.take n).map (λb=>.int .u8 b.toNat),λW _=>?_,VRs.of_map _ _ _ λb _=>.int _ _⟩
  simp only[Builtin.firstCells,Sem.run_pure]
  congr 1
  apply Array.ext'
  simp[ByteArray.data_extract,Array.toList_extract,List.extract_eq_take_drop]
 ·cases hl
theorem pw {x x':Value}{n:Nat}(hx:VR σ x x') (h:yd x=some n):(Builtin.lenOf x').run P w = .ok n w:=by
 unfold yd at h
 split at h
 ·cases h;cases hx <;>simp[Builtin.lenOf]
 ·cases h;cases hx;simp[Builtin.lenOf]
 ·cases h
theorem px (N:Nat):∀(r c M:Nat),c<=M->N+(N+768) / 4<=M->Builtin.growBy N r c<=M
 | 0,c,M,h,_=>h
 | r+1,c,M,h,hM=>by
  simp only[Builtin.growBy]
  split
  ·exact h
  ·refine px N r _ M ?_ hM;omega
theorem AI (N c:Nat) (h:c<N):Builtin.nextslicecap N c<=2*N+768:=by
 unfold Builtin.nextslicecap
 split
 ·omega
 ·split
  ·omega
  ·exact px N 4 c _ (by omega) (by omega)
theorem sd (n:Nat):(askRoom n).run P w = .ok () w:=by
 unfold askRoom;split <;>rfl
theorem ug {h h':AH}(hr:HR P σ h w){e:TypeId}{i:TypeInfo}(hi:P.info? e=some i){s':Value}{sl K n:Nat}{base:Option Addr}(hs:VR σ (.slice base sl K) s')
  {new new':List Value}(hnew:VRs σ new new'){v:Value}(hk:wC h e i base sl K n new=some (v,h')) :
  ∃base' cap,s' = .slice base' sl cap/\fq i=true/\(sl+n)*i.bytes<70000000000000/\sl+n<70000000000000/\i.bytes<1000000/\i.size≠0/\
   ((sl+n<=cap/\∃σ' w',(∀a,base' = some a->(storeCells (a.add (sl*i.size)) new').run P w = .ok () w')/\(base' = none->w' = w)/\St P σ h w σ' h' w'/\VR σ' v (.slice base' (sl+n) cap))\/
    (cap<sl+n/\∃old':List Value,(∀W:World,W.heap=w.heap->(Builtin.firstCells i.size sl s').run P W = .ok old'.toArray W)/\
     ∀(nc:Nat) (q:Array Value) (w':World),sl+n<=nc->q.size=(nc - (sl+n))*i.size->wM w (.cells (old'.toArray ++ new'.toArray ++ q) e) w'->
      ∃σ',St P σ h w σ' h' w'/\VR σ' v (.slice (some ⟨w.heap.size,0,none⟩) (sl+n) nc))):=by
 unfold wC at hk
 obtain⟨h1,h2⟩:=ae hk
 obtain⟨h1,c7⟩:=ak h1
 obtain⟨h1,c6⟩:=ak h1
 obtain⟨h1,c5⟩:=ak h1
 obtain⟨h1,c4⟩:=ak h1
 obtain⟨h1,c3⟩:=ak h1
 obtain⟨c1,c2⟩:=ak h1
 have c2:=cW c2;have c3:=cW c3;have c5:=aq c5;have c6:=cW c6
 have hsz:i.size≠0:=λe0=>by rw[e0]at c4;simp[Nat.beq_refl]at c4
 have hlen':new'.length=n*i.size:=by rw[<-hnew.1];exact c5
 have fresh:∀(olds olds':List Value),VRs σ olds olds'->olds.length=sl*i.size->v=lF (sl+n) (cl (sl+n)) h.next->
   ∀(nc:Nat) (q:Array Value) (w':World),sl+n<=nc->q.size=(nc - (sl+n))*i.size->wM w (.cells (olds'.toArray ++ new'.toArray ++ q) e) w'->
    ∃σ',St P σ h w σ' (h.new (.cells (olds ++ new) e false)) w'/\VR σ' v (.slice (some ⟨w.heap.size,0,none⟩) (sl+n) nc):=by
  intro olds olds' hold hol hv nc q w' hge hq hl
  subst hv
  have hsize:(olds'.toArray ++ new'.toArray ++ q).size=nc*i.size:=by
   have ho':olds'.length=sl*i.size:=by rw[<-hold.1];exact hol
   simp only[Array.size_append,List.size_toArray,ho',hlen',hq]
   rw[<-Nat.add_mul,<-Nat.add_mul];congr 1;omega
  refine⟨_,St.laid hr (E:=nc) hl (λσ' hle hE=>.cells (λj u hu=>?_) (λ_=>.inl rfl) (λi' hi'=>?_)),jH (Ren.put_same _ _ _ _) (CR.cl hge) (λ_=>by rw[Ren.put_e];exact Nat.le_refl _)⟩
  ·obtain⟨u',q1,q2⟩:=(hold.append hnew).get hu
   refine⟨u',?_,q2.mono hle⟩
   have hj:j<(olds' ++ new').length:=(List.getElem?_eq_some_iff.1 q1).1
   rw[Array.getElem?_append_left (by simpa using hj)]
   simpa using q1
  ·rw[hi]at hi';cases hi'
   rw[hE,hsize];exact Nat.le_refl _
 cases hfit:Nat.ble (sl+n) (K / 2) with
 | true=>
  rw[hfit]at h2
  have hle:=fe hfit
  simp only[cond_true]at h2
  unfold mw at h2
  cases hs with
  | sl0=>
   simp only at h2
   obtain⟨q1,q2⟩:=ae h2
   cases q2
   obtain⟨q1,q3⟩:=ak q1
   obtain⟨q1,q2⟩:=ak q1
   have q2:=aq q2
   subst q2
   exact⟨none,0,rfl,c7,c2,c3,c6,hsz,.inl ⟨by omega,σ,w,(λa ha=>by cases ha),λ_=>rfl,St.refl hr,.sl0⟩⟩
  | @sl m b o _ _ cap hm hK hq=>
   simp only at h2
   have hcap:=hK.le
   cases h0:Nat.beq n 0 with
   | true=>
    rw[h0]at h2;cases h2
    have:=aq h0;subst this
    have hn0:new' = []:=List.eq_nil_of_length_eq_zero (by rw[hlen'];simp)
    subst hn0
    exact⟨some ⟨b,o,none⟩,cap,rfl,c7,c2,c3,c6,hsz,.inl ⟨by omega,σ,w,λa ha=>rfl,λh=>rfl,St.refl hr,.sl hm hK hq⟩⟩
   | false=>
    rw[h0]at h2
    simp only[cond_false]at h2
    split at h2
    ·rename_i h1' hst
     cases h2
     rw[bj]at hst
     obtain⟨r1,r2⟩:=cX hr hm hnew hst
     exact⟨some ⟨b,o,none⟩,cap,rfl,c7,c2,c3,c6,hsz,.inl ⟨by omega,σ,_,(λa ha=>by cases ha;rw[bj];exact r1),(λh=>by cases h),r2,.sl hm hK hq⟩⟩
    ·cases h2
  | far=>simp at h2
 | false=>
  rw[hfit]at h2
  have hlt:K / 2<sl+n:=by
   rcases Nat.lt_or_ge (K / 2) (sl+n) with a | a
   ·exact a
   ·rw[show Nat.ble (sl+n) (K / 2)=true from Nat.ble_eq_true_of_le a]at hfit;cases hfit
  simp only[cond_false]at h2
  unfold eY at h2
  cases hs with
  | sl0=>
   simp only at h2
   obtain⟨q1,q2⟩:=ae h2
   cases q2
   refine⟨none,0,rfl,c7,c2,c3,c6,hsz,.inr ⟨by simpa using hlt,[],λW _=>by simp[Builtin.firstCells],?_⟩⟩
   have:=fresh [] [] (VRs.nil σ) (by simp) (by simp)
   simpa using this
  | @sl m b o _ _ cap hm hK hq=>
   simp only at h2
   split at h2
   ·rename_i c e0 f hsp hc
    obtain⟨c',f',hb,hp,hf,hg,hroom⟩:=gO hr hm hc
    split at h2
    ·rename_i old hold
     have hcut:=hp.cut hold
     have hfirst:∃old':List Value,(∀W:World,W.heap=w.heap->(Builtin.firstCells i.size sl (.slice (some ⟨b,o,none⟩) sl cap)).run P W = .ok old'.toArray W)/\VRs σ old old'/\old.length=sl*i.size/\(o=0->sl≠0->old' = c'.toList.take (sl*i.size)/\sl*i.size<=c'.size):=by
      rcases hcut with⟨x1,x2,x3⟩ | ⟨x1,x2⟩
      ·refine⟨_,λW hW=>?_,x1,x2,λho _=>⟨by subst ho;simp,by subst ho;simpa using x3⟩⟩
       simp only[Builtin.firstCells]
       exact lX (w:=W) (by rw[hW];exact hb) (by simpa using x3)
      ·refine⟨[],λW hW=>by simp[Builtin.firstCells,x1,mC],x2 ▸ VRs.nil σ,by rw[x1,x2];rfl,λ_ hsl=>?_⟩
       exfalso
       rcases Nat.mul_eq_zero.1 x1 with y | y
       ·exact hsl y
       ·exact hsz y
     obtain⟨old',f1,f2,f3,f4⟩:=hfirst
     cases hx:Nat.beq (K % 2) 0 with
     | true=>
      rw[hx]at h2;cases h2
      have hcap:cap=K / 2:=hK.1 (aq hx)
      exact⟨some ⟨b,o,none⟩,cap,rfl,c7,c2,c3,c6,hsz,.inr ⟨by omega,old',f1,fresh old old' f2 f3 rfl⟩⟩
     | false=>
      rw[hx]at h2
      simp only[cond_false]at h2
      obtain⟨g1,g2⟩:=ae h2
      obtain⟨g1,g3⟩:=ak g1
      obtain⟨g4,g5⟩:=ak g1
      have g4:=aq g4;have g3:=aq g3
      have g5:f=false:=by cases f <;>simp_all
      subst g3;subst g5
      have g4:o=0:=g4
      subst g4
      cases g2
      have hodd:K % 2=1:=by
       rcases Nat.mod_two_eq_zero_or_one K with y | y
       ·rw[y]at hx;cases hx
       ·exact y
      refine⟨some ⟨b,0,none⟩,cap,rfl,c7,c2,c3,c6,hsz,?_⟩
      rcases Nat.lt_or_ge cap (sl+n) with hc | hc
      ·
       refine .inr ⟨hc,old',f1,λnc q w' hge hqs hl=>?_⟩
       obtain⟨σ',r2,r3⟩:=fresh old old' f2 f3 rfl nc q w' hge hqs hl
       refine⟨σ',?_,r3⟩
       have hmn:m≠h.next:=λy=>by have:=(hr.lt m b hm).1;omega
       have gn:((h.del m).new (.cells (old ++ new) e0 false)).get m=none:=by
        rw[AH.get_new_ne (h.del m) _ (show(h.del m).next≠m from Ne.symm hmn)];exact AH.get_del h m
       have gelse:∀k,k≠m->((h.del m).new (.cells (old ++ new) e0 false)).get k=(h.new (.cells (old ++ new) e0 false)).get k:=λk y=>by
        by_cases z:k=h.next
        ·subst z;rw[AH.get_new];exact AH.get_new (h.del m) _
        ·rw[AH.get_new_ne (h.del m) _ (show(h.del m).next≠k from Ne.symm z),AH.get_new_ne h _ (Ne.symm z)];exact AH.get_del_ne h (Ne.symm y)
       have up:∀k o,((h.del m).new (.cells (old ++ new) e0 false)).get k=some o->(h.new (.cells (old ++ new) e0 false)).get k=some o:=λk o y=>by
        by_cases z:k=m
        ·subst z;rw[gn]at y;cases y
        ·rw[gelse k z]at y;exact y
       refine⟨r2.ext,⟨r2.hr.lt,λk b' o x y=>r2.hr.obj k b' o x (up k o y),λk j b' o p x1 x2 y1 y2=>r2.hr.inj k j b' o p x1 x2 (up k o y1) (up j p y2),λk hk=>?_⟩,r2.os,r2.tape,r2.output,r2.size,r2.next,r2.new,λk hk y=>?_,r2.frame,λk b' l e x y=>?_⟩
       ·by_cases z:k=m
        ·subst z;exact gn
        ·rw[gelse k z];exact r2.hr.none k hk
       ·have:k≠m:=λz=>by subst z;rw[hm]at y;cases y
        rw[gelse k this];exact r2.keep k hk y
       ·have:k≠m:=λz=>by subst z;rw[hg]at y;cases y
        obtain⟨p1,p2⟩:=r2.ro k b' l e x y
        exact⟨by rw[gelse k this];exact p1,p2⟩
      ·
       have hcap:=hq hodd rfl
       have hrm:=hroom i hi
       have hbig:(sl+n)*i.size<=c'.size:=Nat.le_trans (Nat.mul_le_mul_right _ (Nat.le_trans hc hcap)) hrm
       have hfit':sl*i.size+new'.length<=c'.size:=by rw[hlen',<-Nat.add_mul];exact hbig
       have hold2:old' = c'.toList.take (sl*i.size):=by
        rcases Nat.eq_zero_or_pos sl with y | y
        ·have:old' = []:=List.eq_nil_of_length_eq_zero (by rw[<-f2.1,f3,y];simp)
         rw[this,y];simp
        ·exact(f4 rfl (by omega)).1
       have hwr:=pu (P:=P) hb (hf rfl) hfit' (BW hnew c1)
       have hst:St P σ h w (σ.put h.next b (σ.e b)) ((h.del m).new (.cells (old ++ new) e0 false)) (w.setCells b (sl*i.size) new'):=by
        refine St.regrow hr hm hg (λ_ _ y=>by cases y) (fg b new' _ w) (gR b new' _ w c' hb) (λσ' hle hE=>.cells (λj u hu=>?_) (λ_=>by rw[dB];exact hf rfl) (λi' hi'=>by rw[dB,hE];exact hroom i' hi'))
        obtain⟨u',y1,y2⟩:=(f2.append hnew).get hu
        refine⟨u',?_,y2.mono hle⟩
        have:(fW c' (sl*i.size) new').toList=old' ++ new' ++ c'.toList.drop (sl*i.size+new'.length):=by rw[gQ _ _ _ hfit',hold2]
        rw[<-Array.getElem?_toList,this,List.getElem?_append_left (List.getElem?_eq_some_iff.1 y1).1]
        exact y1
       refine .inl ⟨hc,_,_,(λa ha=>by cases ha;rw[bj,Nat.zero_add];exact hwr),(λh=>by cases h),hst,jH (Ren.put_same _ _ _ _) (CR.cl hc) (λ_=>by rw[Ren.put_e];exact hcap)⟩
    ·cases h2
   ·cases h2
  | far=>simp[aS]at h2
theorem i8 (z:Value) (n:Nat):(Builtin.zeroCells z.cells n).size=n*z.cells.size:=by simp[Builtin.zeroCells]
theorem oI {h h':AH}(hr:HR P σ h w){ts tx ty:TypeId}{args:Array TypeId}(ht:args[0]? = some ts) (hx:args[1]? = some tx){s s' x x':Value}(hs:VR σ s s') (hxx:VR σ x x'){v:Value}
  (hl:ai P h (P.underlying ts) (P.underlying tx) s x=some (v,h')):yv P σ h w (Builtin.append_ args ty #[s',x']) v h':=by
 unfold ai at hl
 split at hl
 ·rename_i e dx hd hd2
  split at hl
  ·rename_i i hi
   unfold lV at hl
   split at hl
   ·rename_i base sl K n new hsrc
    have happ:∃new':List Value,VRs σ new new'/\((mz (some dx)=false/\(∀W:World,(Builtin.lenOf x').run P W = .ok n W)/\∀W:World,W.heap=w.heap->(Builtin.firstCells i.size n x').run P W = .ok new'.toArray W)\/
      (mz (some dx)=true/\n<70000000000000/\(∃k,x' = .int k (n:Int))/\∃z,i.zero=some z/\z.cells.size=i.size/\new' = (Builtin.zeroCells z.cells n).toList)):=by
     cases hb:mz (some dx) with
     | false=>
      rw[hb]at hsrc
      simp only[cond_false]at hsrc
      unfold my at hsrc
      split at hsrc
      ·rename_i m hm
       split at hsrc
       ·rename_i l hl1
        cases hsrc
        obtain⟨new',g1,g2⟩:=pv (P:=P) hr hxx hl1
        exact⟨new',g2,.inl ⟨rfl,λW=>pw hxx hm,g1⟩⟩
       ·cases hsrc
      ·cases hsrc
     | true=>
      rw[hb]at hsrc
      simp only[cond_true]at hsrc
      unfold lW at hsrc
      split at hsrc
      ·rename_i z m hz hm
       obtain⟨q1,q2⟩:=ae hsrc
       cases q2
       obtain⟨q3,q4⟩:=ak q1
       obtain⟨q5,q6,_⟩:=dA (σ:=σ) q4
       obtain⟨k,hk⟩:=bH hxx hm
       refine⟨(Builtin.zeroCells z.cells n).toList,?_,.inr ⟨rfl,cW q3,⟨k,hk⟩,z,hz,by simpa using q5,rfl⟩⟩
       unfold Builtin.zeroCells
       rw[it]
       refine⟨rfl,λj u u' a b=>?_⟩
       rw[a]at b;cases b
       have hj:j<n*z.cells.toList.length:=by rw[<-jF];exact(List.getElem?_eq_some_iff.1 a).1
       rw[jG _ _ _ hj]at a
       exact q6.2 _ u u a a
      ·cases hsrc
    obtain⟨new',hnew,hcase⟩:=happ
    obtain⟨base',cap,rfl,hz,hb1,hb2,hb3,hsz,hmain⟩:=ug hr hi hs hnew hl
    obtain⟨z,hz,hzz⟩:∃z,i.zero=some z/\z.cells.size=i.size:=by
     unfold fq at hz
     split at hz
     ·rename_i z hz';exact⟨z,hz',by simpa using aq hz⟩
     ·cases hz
    have hnext:∀c,c<sl+n->¬Builtin.nextslicecap (sl+n) c*i.bytes > 2 ^ 48:=λc hc hgt=>by
     have h1:=AI (sl+n) c hc
     have h2:Builtin.nextslicecap (sl+n) c*i.bytes<=(2*(sl+n)+768)*i.bytes:=Nat.mul_le_mul_right _ h1
     have h3:(2*(sl+n)+768)*i.bytes=2*((sl+n)*i.bytes)+768*i.bytes:=by rw[Nat.add_mul,Nat.mul_assoc]
     omega
    have hmaxi:¬(((sl+n:Nat):Int) > IntKind.i64.max):=by
     have:IntKind.i64.max=9223372036854775807:=by decide
     omega
    unfold yv
    have a0:(#[Value.slice base' sl cap,x']:Array Value)[0]? = some (.slice base' sl cap):=rfl
    have a1:(#[Value.slice base' sl cap,x']:Array Value)[1]? = some x':=rfl
    have wn:n<70000000000000->IntKind.i64.wrap (n:Int)=n:=λh=>IntWalk.i64_in _ (by omega)
    have wn0:¬((n:Int)<0):=by omega
    have wn1:n<70000000000000->¬((n:Int)*(i.bytes:Int) > 2 ^ 48):=λh=>by
     have:n*i.bytes<=(sl+n)*i.bytes:=Nat.mul_le_mul_right _ (by omega)
     have:((n*i.bytes:Nat):Int)<=70000000000000:=by omega
     rw[Int.natCast_mul]at this
     omega
    rcases hmain with⟨hcap,σ',w',hst,hnone,hSt,hVR⟩ | ⟨hcap,old',hold,hfresh⟩
    ·refine⟨.slice base' (sl+n) cap,w',σ',?_,hSt,hVR⟩
     rcases hcase with⟨hb,hlen,hf⟩ | ⟨hb,hn,⟨k,rfl⟩,z',hz',hzs,rfl⟩
     ·cases dx <;>first | (cases hb;done) | skip
      all_goals
       simp only[Builtin.append_,ht,hx,a0,a1,Sem.run_bind,am hd,am hd2,aT hi,Result.andThen_ok,Sem.run_pure,Bool.false_eq_true,if_false,hlen w,hcap,if_true,Bool.not_false,hf w rfl]
       cases base' with
       | none=>rw[hnone rfl];rfl
       | some a=>simp only[Sem.run_bind,hst a rfl,Result.andThen_ok,Sem.run_pure]
     ·cases dx <;>first | (cases hb;done) | skip
      simp only[Builtin.append_,ht,hx,a0,a1,Sem.run_bind,am hd,am hd2,aT hi,Result.andThen_ok,Sem.run_pure,Bool.false_eq_true,if_false,if_true,asInt,asIntOf,wn hn,wn0,fU hi,wn1 hn,Int.toNat_natCast,hcap,Bool.not_true]
      by_cases h0:n*i.size=0
      ·have:(Builtin.zeroCells z'.cells n) = #[]:=Array.eq_empty_of_size_eq_zero (by rw[i8,hzs];exact h0)
       simp only[h0,if_true,Sem.run_pure,Result.andThen_ok]
       rw[this]at hst
       cases base' with
       | none=>rw[hnone rfl];rfl
       | some a=>simp only[Sem.run_bind,hst a rfl,Result.andThen_ok,Sem.run_pure]
      ·simp only[h0,if_false,Sem.run_bind,dv hi hz',Sem.run_pure,Result.andThen_ok]
       cases base' with
       | none=>rw[hnone rfl];rfl
       | some a=>simp only[Sem.run_bind,hst a rfl,Result.andThen_ok,Sem.run_pure]
    ·have hge:sl+n<=(Question.appendCap (sl+n) cap e).cut (w.tape w.drawn (.appendCap (sl+n) cap e)):=Nat.le_add_right _ _
     generalize hnc:(Question.appendCap (sl+n) cap e).cut (w.tape w.drawn (.appendCap (sl+n) cap e))=nc at hge
     have hch:(choose (.appendCap (sl+n) cap e)).run P w = .ok nc { w with drawn:=w.drawn+1 }:=by
      simp[choose,Sem.run,Question.forced,hnc]
     have hq:(Builtin.zeroCells z.cells (nc - (sl+n))).size=(nc - (sl+n))*i.size:=by rw[i8,hzz]
     obtain⟨σ',hSt,hVR⟩:=hfresh nc _ { w with drawn:=w.drawn+1,heap:=w.heap.push (.cells (old'.toArray ++ new'.toArray ++ Builtin.zeroCells z.cells (nc - (sl+n))) e) } hge hq ⟨rfl,rfl,rfl,rfl⟩
     refine⟨_,_,σ',?_,hSt,hVR⟩
     have hncap:¬sl+n<=cap:=by omega
     have hbig:¬((((sl+n:Nat):Int) > IntKind.i64.max)/\(True\/i.bytes=0)):=λh=>hmaxi h.1
     have hbig2:¬((((sl+n:Nat):Int) > IntKind.i64.max)/\(False\/i.bytes=0)):=λh=>hmaxi h.1
     have hold1:=hold { w with drawn:=w.drawn+1 } rfl
     rcases hcase with⟨hb,hlen,hf⟩ | ⟨hb,hn,⟨k,rfl⟩,z',hz',hzs,rfl⟩
     ·have hf1:=hf { w with drawn:=w.drawn+1 } rfl
      cases dx <;>first | (cases hb;done) | skip
      all_goals
       simp only[Builtin.append_,ht,hx,a0,a1,Sem.run_bind,am hd,am hd2,aT hi,Result.andThen_ok,Sem.run_pure,Bool.false_eq_true,if_false,hlen w,hncap,fU hi,hmaxi,false_and,hnext cap hcap,hch,sd,hold1,if_true,Bool.not_false,hf1,dv hi hz]
       simp only[newRow,Sem.run_bind,newObj,Sem.run,Sem.run_pure,Result.andThen_ok]
     ·cases dx <;>first | (cases hb;done) | skip
      simp only[Builtin.append_,ht,hx,a0,a1,Sem.run_bind,am hd,am hd2,aT hi,Result.andThen_ok,Sem.run_pure,Bool.false_eq_true,if_false,if_true,asInt,asIntOf,wn hn,wn0,fU hi,wn1 hn,Int.toNat_natCast,hncap,hmaxi,false_and,hnext cap hcap,hch,sd,hold1,Bool.not_true]
      rw[hz]at hz';cases hz'
      by_cases h0:n*i.size=0
      ·have:(Builtin.zeroCells z.cells n) = #[]:=Array.eq_empty_of_size_eq_zero (by rw[i8,hzs];exact h0)
       simp only[h0,if_true,Sem.run_pure,Result.andThen_ok,dv hi hz]
       simp only[newRow,Sem.run_bind,newObj,Sem.run,Sem.run_pure,Result.andThen_ok,this]
      ·simp only[h0,if_false,Sem.run_bind,dv hi hz,Sem.run_pure,Result.andThen_ok]
       simp only[newRow,Sem.run_bind,newObj,Sem.run,Sem.run_pure,Result.andThen_ok]
   ·cases hl
  ·cases hl
 ·cases hl
end
end Eva
end
section
open Go Go.RowKit
namespace Eva
section
variable {P:Program}{σ:Ren}{w:World}
theorem gS {h h':AH}{a:Addr}{vs:List Value}(hs:cL h a vs=some h'):a.spot=none:=by
 unfold cL at hs
 split at hs
 ·assumption
 ·cases hs
theorem se {h h':AH}{a:Addr}{vs:List Value}(hs:cL h a vs=some h'):aO flat vs=true:=by
 unfold cL at hs
 split at hs
 ·exact(ae hs).1
 ·cases hs
theorem qD {h h':AH}(hr:HR P σ h w){ts ty:TypeId}{args:Array TypeId}(ht:args[0]? = some ts){x x':Value}(hx:VR σ x x'){v:Value}
  (hl:gL P h (P.underlying ts) x=some (v,h')):yv P σ h w (Builtin.clear_ args ty #[x']) v h':=by
 unfold gL at hl
 split at hl
 ·rename_i e a n K hd
  split at hl
  ·rename_i i hi
   split at hl
   ·rename_i z hz
    obtain⟨h1,h2⟩:=ae hl
    obtain⟨q5,q6,_⟩:=dA (σ:=σ) h1
    have a0:(#[x']:Array Value)[0]? = some x':=rfl
    cases h0:Nat.beq n 0 with
    | true=>
     rw[h0]at h2;cases h2
     have:=aq h0;subst this
     cases hx <;>exact⟨.tuple #[],w,σ,by simp[Builtin.clear_,ht,am hd],St.refl hr,VR.tuple' (VRs.nil σ)⟩
    | false=>
     rw[h0]at h2
     simp only[cond_false]at h2
     split at h2
     ·rename_i h1' hst
      cases h2
      have hsp:=gS hst
      cases hx with
      | @sl m b o _ _ c hm hK hq=>
       have hv:VRs σ (rep n z.cells.toList) (Builtin.zeroCells z.cells n).toList:=by
        unfold Builtin.zeroCells
        rw[it]
        refine⟨rfl,λj u u' a b=>?_⟩
        rw[a]at b;cases b
        have hj:j<n*z.cells.toList.length:=by rw[<-jF];exact(List.getElem?_eq_some_iff.1 a).1
        rw[jG _ _ _ hj]at a
        exact q6.2 _ u u a a
       obtain⟨r1,r2⟩:=cX hr hm hv hst
       refine⟨.tuple #[],_,σ,?_,r2,VR.tuple' (VRs.nil σ)⟩
       have hn0:n≠0:=λy=>by rw[y]at h0;cases h0
       obtain⟨n',rfl⟩:=Nat.exists_eq_succ_of_ne_zero hn0
       simp only[Builtin.clear_,ht,a0,Sem.run_bind,am hd,Result.andThen_ok,dv hi hz,r1,Sem.run_pure]
      | far=>cases hsp
     ·cases h2
   ·cases hl
  ·cases hl
 ·cases hl
theorem yw (a b:Nat):(cond (Nat.ble a b) a b)=Nat.min a b:=by
 cases h:Nat.ble a b with
 | true=>simp only[cond_true];exact(Nat.min_eq_left (fe h)).symm
 | false=>
  simp only[cond_false]
  have:¬a<=b:=λy=>by rw[Nat.ble_eq_true_of_le y]at h;cases h
  exact(Nat.min_eq_right (by omega)).symm
theorem sf {h h':AH}(hr:HR P σ h w){td ty:TypeId}{args:Array TypeId}(ht:args[0]? = some td){x x' s s':Value}(hx:VR σ x x') (hs:VR σ s s'){v:Value}
  (hl:iN P h (P.underlying td) x s=some (v,h')):yv P σ h w (Builtin.copy_ args ty #[x',s']) v h':=by
 unfold iN at hl
 split at hl
 ·rename_i e base dl K sl hd hsl
  split at hl
  ·rename_i i hi
   split at hl
   ·rename_i l hfirst
    split at hl
    ·rename_i h1' hc
     cases hl
     rw[yw]at hfirst⊢
     obtain⟨l',f1,f2⟩:=pv (P:=P) hr hs hfirst
     have a0:(#[x',s']:Array Value)[0]? = some x':=rfl
     have a1:(#[x',s']:Array Value)[1]? = some s':=rfl
     have hlen:=pw (P:=P) (w:=w) hs hsl
     unfold tY at hc
     cases hx with
     | sl0=>
      simp only at hc
      obtain⟨q1,q2⟩:=ae hc
      cases q2
      refine⟨goInt (Nat.min sl 0:Nat),w,σ,?_,St.refl hr,.int _ _⟩
      simp only[Builtin.copy_,ht,a0,a1,Sem.run_bind,am hd,Result.andThen_ok,hlen,aT hi,f1 w rfl,Sem.run_pure]
     | @sl m b o _ _ c hm hK hq=>
      simp only at hc
      refine⟨goInt (Nat.min sl dl:Nat),w.setCells b o l',σ,?_,?_,.int _ _⟩
      ·have hst:(storeCells ⟨b,o,none⟩ l').run P w = .ok () (w.setCells b o l'):=by
        cases h0:Nat.beq l.length 0 with
        | true=>
         have:l' = []:=List.eq_nil_of_length_eq_zero (by rw[<-f2.1];exact aq h0)
         subst this;rfl
        | false=>rw[h0]at hc;exact(cX hr hm f2 hc).1
       simp only[Builtin.copy_,ht,a0,a1,Sem.run_bind,am hd,Result.andThen_ok,hlen,aT hi,f1 w rfl,Sem.run_pure,hst]
      ·cases h0:Nat.beq l.length 0 with
       | true=>
        rw[h0]at hc;cases hc
        have:l' = []:=List.eq_nil_of_length_eq_zero (by rw[<-f2.1];exact aq h0)
        subst this;exact St.refl hr
       | false=>rw[h0]at hc;exact(cX hr hm f2 hc).2
     | @far a c=>
      simp only at hc
      have hmin:Nat.min sl 0=0:=Nat.min_zero sl
      cases h0:Nat.beq l.length 0 with
      | true=>
       rw[h0]at hc;cases hc
       have:l' = []:=List.eq_nil_of_length_eq_zero (by rw[<-f2.1];exact aq h0)
       subst this
       refine⟨goInt (Nat.min sl 0:Nat),w,σ,?_,St.refl hr,.int _ _⟩
       simp only[Builtin.copy_,ht,a0,a1,Sem.run_bind,am hd,Result.andThen_ok,hlen,aT hi,f1 w rfl,Sem.run_pure,storeCells]
      | false=>
       rw[h0]at hc
       simp only[cond_false]at hc
       exact absurd (gS hc) (by simp)
    ·cases hl
   ·cases hl
  ·cases hl
 ·cases hl
theorem qE {h h':AH}(hr:HR P σ h w){t:TypeId}{x x' u u':Value}(hx:VR σ x x') (hu:VR σ u u'){v:Value}(hl:ku h (P.info? t) x u=some (v,h')) :
  v=undef/\∃w',(Instr.storeAt t x' u').run P w = .ok () w'/\St P σ h w σ h' w':=by
 unfold ku at hl
 split at hl
 ·rename_i i a hi
  obtain⟨h1,h2⟩:=ae hl
  have h1:=aq h1
  split at h2
  ·rename_i h1' hst
   cases h2
   have hsp:=gS hst
   cases hx with
   | ptr hn=>
    have hJ:=ld (se hst)
    obtain⟨r1,r2⟩:=cX hr hn (hu.cells hJ) hst
    refine⟨rfl,_,?_,r2⟩
    have hsz:u'.cells.size=i.size:=by have:=(hu.cells hJ).1;simp at this h1;omega
    simp[Instr.storeAt,Instr.sureAddr,storeVar,aT hi,hsz,r1]
  ·cases h2
 ·cases hl
theorem sg (k v:Value):∀(es:List (Value×Value×Nat)) (i:Nat),(mu k v es i).length=es.length
 | [],_=>rfl
 | _ :: r,0=>rfl
 | _ :: r,i+1=>by simp[mu,sg k v r i]
theorem py (k v:Value):∀(es:List (Value×Value×Nat)) (i:Nat){k0 v0:Value}{b:Nat},es[i]? = some (k0,v0,b)->(mu k v es i)[i]? = some (k,v,b)
 | [],i,_,_,_,h=>by simp at h
 | e :: r,0,_,_,_,h=>by simp at h;subst h;rfl
 | e :: r,i+1,_,_,_,h=>by simp only[mu];simp at h⊢;exact py k v r i h
theorem vu (k v:Value):∀(es:List (Value×Value×Nat)) (i j:Nat),i≠j->(mu k v es i)[j]? = es[j]?
 | [],i,j,_=>rfl
 | e :: r,0,j,h=>by cases j with | zero=>exact absurd rfl h | succ j=>rfl
 | e :: r,i+1,j,h=>by
  cases j with
  | zero=>rfl
  | succ j=>simp only[mu,List.getElem?_cons_succ];exact vu k v r i j (by omega)
theorem ll {kt:TypeId}{k:Value}:∀(es:List (Value×Value×Nat)) (j:Nat){i:Nat}{v:Value},fp P kt k es j=some (some (i,v))->j<=i/\∃key b,es[i - j]? = some (key,v,b)/\pl key=true
 | [],j,i,v,h=>by
  have h':cond (pl k) (some (none:Option (Nat×Value))) none=some (some (i,v)):=h
  obtain⟨_,h2⟩:=ae h'
  cases h2
 | (key,u,b) :: es,j,i,v,h=>by
  have h':cond (pl k && pl key) (mo j u (fp P kt k es (j+1)) (au P (Op.equal kt k key))) none=some (some (i,v)):=h
  obtain⟨h1,h2⟩:=ae h'
  obtain⟨_,h4⟩:=ak h1
  unfold mo at h2
  split at h2
  ·cases h2;exact⟨Nat.le_refl _,key,b,by simp,h4⟩
  ·obtain⟨g1,key',b',g2,g3⟩:=ll es (j+1) h2
   refine⟨by omega,key',b',?_,g3⟩
   rw[show i - j=(i - (j+1))+1 by omega]
   simpa using g2
  ·cases h2
theorem mL {b:Nat}{es':Array MapEntry}{clock:Nat}(h:w.heap[b]? = some (.map es' clock)) (o:Obj):(setObj b o).run P w = .ok () { w with heap:=w.heap.setIfInBounds b o }:=by
 simp[setObj,Sem.run,h]
theorem sh (b:Nat) (o:Obj):ue b w { w with heap:=w.heap.setIfInBounds b o }:=
 ⟨rfl,rfl,rfl,by simp,λx hx=>by simp[Array.getElem?_setIfInBounds,Ne.symm hx]⟩
theorem mM {h h':AH}(hr:HR P σ h w){t:TypeId}{m m' k k' u u':Value}(hm:VR σ m m') (hk:VR σ k k') (hu:VR σ u u'){v:Value}(hl:fT P h (P.underlying t) m k u=some (v,h')) :
  v=undef/\∃w',(Instr.mapUpdate t m' k' u').run P w = .ok () w'/\St P σ h w σ h' w':=by
 unfold fT at hl
 split at hl
 ·rename_i kt e r hd
  split at hl
  ·rename_i es clock hg
   obtain⟨h1,h2⟩:=ae hl
   obtain⟨h3,h4⟩:=ak h1
   have hke:=rT h3 hk
   subst hke
   have hc:=lh (w:=w) h4
   obtain⟨d,hdd⟩:=po hc
   cases hm with
   | @map n b hn=>
    obtain⟨es',hb,hE⟩:=t8 hr hn hg
    have hlen:es.length=es'.size:=by simpa using hE.1
    have hblt:b<w.heap.size:=(hr.lt r b hn).2
    have hb2:∀o:Obj,({ w with heap:=w.heap.setIfInBounds b o }:World).heap[b]? = some o:=λo=>by simp[hblt]
    unfold yi at h2
    split at h2
    ·rename_i i u0 hf
     obtain⟨q1,q2⟩:=ae h2
     cases q2
     obtain⟨_,r',h5,h6⟩:=dz (w:=w) es es'.toList 0 hE hf
     obtain⟨_,key,born,g2,g3⟩:=ll es 0 hf
     simp only[Nat.sub_zero]at g2
     cases r' with
     | none=>exact h6.elim
     | some p=>
      obtain⟨j',u1⟩:=p
      obtain⟨rfl,hu1⟩:=h6
      obtain⟨e',p1,p2,p3,p4⟩:=hE.2 i key u0 born g2
      have p1':es'[i]? = some e':=by simpa using p1
      have hkey:e'.key=key:=rT g3 p2
      have hbits:Instr.sameBits 10000 key k' = true:=by
       unfold lU at q1;rw[g2]at q1;exact q1
      have hstay:(Instr.keyThatStays (((es'[i]?).map (·.key)).getD k') k').run P w = .ok k' w:=by
       unfold Instr.keyThatStays
       rw[p1']
       simp only[Option.map_some,Option.getD_some,hkey,hbits,if_true,Sem.run_pure]
      have hset:=mL (P:=P) hb (.map (es'.modify i λe=>{ e with key:=k',val:=u' }) clock)
      refine⟨rfl,{ w with heap:=w.heap.setIfInBounds b (.map (es'.modify i λe=>{ e with key:=k',val:=u' }) clock) },?_,?_⟩
      ·simp only[Instr.mapUpdate,Sem.run_bind,am hd,Result.andThen_ok,eh hb,hc,eQ hdd h5,hstay]
       exact hset
      ·refine St.upd hr hn hg (λ_ _ y=>by cases y) (sh b _) (hb2 _) (.map (by rw[sg];simpa using hlen) (λj k0 v0 b0 hj=>?_))
       by_cases hij:i=j
       ·subst hij
        rw[py k' u es i g2]at hj
        cases hj
        refine⟨{ e' with key:=k',val:=u' },by simp[Array.getElem?_modify,p1'],cV h3,hu,p4⟩
       ·rw[vu k' u es i j hij]at hj
        obtain⟨e2,y1,y2,y3,y4⟩:=hE.2 j k0 v0 b0 hj
        exact⟨e2,by rw[Array.getElem?_modify];simp[hij];simpa using y1,y2,y3,y4⟩
    ·rename_i hf
     cases h2
     obtain⟨_,r',h5,h6⟩:=dz (w:=w) es es'.toList 0 hE hf
     cases r' with
     | some p=>exact h6.elim
     | none=>
      have hset:=mL (P:=P) hb (.map (es'.push { key:=k',val:=u',born:=clock }) (clock+1))
      refine⟨rfl,{ w with heap:=w.heap.setIfInBounds b (.map (es'.push { key:=k',val:=u',born:=clock }) (clock+1)) },?_,?_⟩
      ·simp only[Instr.mapUpdate,Sem.run_bind,am hd,Result.andThen_ok,eh hb,hc,eQ hdd h5]
       exact hset
      ·refine St.upd hr hn hg (λ_ _ y=>by cases y) (sh b _) (hb2 _) (.map (by simp[hlen]) (λj k0 v0 b0 hj=>?_))
       rcases Nat.lt_or_ge j es.length with hlt | hge
       ·rw[List.getElem?_append_left hlt]at hj
        obtain⟨e2,y1,y2,y3,y4⟩:=hE.2 j k0 v0 b0 hj
        have y1':es'[j]? = some e2:=by simpa using y1
        exact⟨e2,by rw[Array.getElem?_push];simp[show j≠es'.size by omega];exact y1',y2,y3,y4⟩
       ·rw[List.getElem?_append_right hge]at hj
        have:j - es.length=0:=by
         rcases Nat.eq_zero_or_pos (j - es.length) with y | y
         ·exact y
         ·rw[List.getElem?_eq_none (by simp;omega)]at hj;cases hj
        rw[this]at hj
        simp at hj
        obtain⟨rfl,rfl,rfl⟩:=hj
        have:j=es'.size:=by omega
        subst this
        exact⟨{ key:=k',val:=u',born:=clock },by simp,cV h3,hu,rfl⟩
    ·cases h2
  ·cases hl
 ·cases hl
theorem wN {b:Nat}{c:Array Value}{e:TypeId}{f:Nat×Nat}(hb:w.heap[b]? = some (.cells c e f)) (hf:f.1=f.2\/c.size<=f.1) :
  ∃f',(w.freeze ⟨b,c.size,none⟩ 1).heap[b]? = some (.cells c e f')/\ue b w (w.freeze ⟨b,c.size,none⟩ 1)/\(f'.1=f'.2\/c.size<=f'.1):=by
 obtain⟨lo,hi⟩:=f
 refine⟨if lo == hi then(c.size,c.size+1) else(min lo c.size,max hi (c.size+1)),?_,⟨rfl,rfl,rfl,?_,λx hx=>?_⟩,?_⟩
 ·simp only[World.freeze,Nat.one_ne_zero,if_false,Array.getElem?_modify,hb]
  simp
 ·simp[World.freeze]
 ·simp only[World.freeze,Nat.one_ne_zero,if_false,Array.getElem?_modify]
  simp[Ne.symm hx]
 ·simp only at hf
  by_cases e:lo=hi
  ·simp[e]
  ·have:(lo == hi)=false:=by simpa using e
   simp only[this,Bool.false_eq_true,if_false]
   omega
theorem si {h h':AH}(hr:HR P σ h w){s d:TypeId}{x x' v:Value}(hx:VR σ x x') (hl:vn P h s d x=some (v,h')):yv P σ h w (convert s d x') v h':=by
 unfold vn at hl
 split at hl
 ·rename_i e0 e a n K hs hd
  split at hl
  ·rename_i c e1 he hsp hc
   obtain⟨h1,h2⟩:=ae hl
   cases h2
   have hsd:=aq h1
   subst hsd
   rw[hs]at hd
   cases hd
   cases hx with
   | @sl m b o _ _ cap hm hK hq=>
    obtain⟨c',f',hb,hp,hf,hg,hroom⟩:=gO hr hm hc
    obtain⟨f2,hb2,hsame,hf2⟩:=wN hb (hf rfl)
    refine⟨.slice (some ⟨b,o,none⟩) n cap,w.freeze ⟨b,c'.size,none⟩ 1,σ,?_,?_,.sl hm hK hq⟩
    ·have hsh:(shape b).run P w = .ok (some (e1,c'.size)) w:=by simp[shape,Sem.run,World.shape?,hb]
     simp only[convert,Sem.run_bind,am hs,Result.andThen_ok,am he,beq_self_eq_true,markStringish,hsh,freeze,Sem.run,Sem.run_pure]
    ·exact St.upd' hr hm hg (λ_ _ y=>by cases y) rfl hg (λ_ _=>rfl) hsame hb2 (.cells (λi v hv=>by obtain⟨v',h1,h2⟩:=hp i v hv;exact⟨v',by simpa using h1,h2⟩) (λ_=>hf2) hroom)
   | far=>cases hsp
  ·cases hl
 ·cases hl
def Yd (nx:Next) (v':Value):Prop:=nx = .value v'\/(nx = .skip/\v' = undef)
theorem bT (σ:Ren):VR σ undef undef:=VR.tuple' (VRs.nil σ)
theorem wO {h h':AH}(hr:HR P σ h w){o:Oper}{fr:Fr}{ρ:Operand->Value}(hE:OkE σ fr ρ o){v:Value}(hl:evL P o fr h=some (v,h')) :
  ∃nx v' w' σ',(execOp ρ o).run P w = .ok nx w'/\Yd nx v'/\St P σ h w σ' h' w'/\VR σ' v v':=by
 unfold evL at hl
 split at hl
 ·rename_i x ho
  cases hl
  exact⟨_,ρ x,w,σ,by simp[execOp,ho],.inl rfl,St.refl hr,hE x (by simp[ho,Op.operands])⟩
 ·rename_i t x u ho
  obtain⟨rfl,w',h1,h2⟩:=qE hr (hE x (by simp[ho,Op.operands])) (hE u (by simp[ho,Op.operands])) hl
  exact⟨_,undef,w',σ,by simp[execOp,ho,h1],.inr ⟨rfl,rfl⟩,h2,bT σ⟩
 ·rename_i t m k u ho
  obtain⟨rfl,w',h1,h2⟩:=mM hr (hE m (by simp[ho,Op.operands])) (hE k (by simp[ho,Op.operands])) (hE u (by simp[ho,Op.operands])) hl
  exact⟨_,undef,w',σ,by simp[execOp,ho,h1],.inr ⟨rfl,rfl⟩,h2,bT σ⟩
 ·rename_i t m k u ho
  obtain⟨rfl,w',h1,h2⟩:=mM hr (hE m (by simp[ho,Op.operands])) (hE k (by simp[ho,Op.operands])) (hE u (by simp[ho,Op.operands])) hl
  exact⟨_,undef,w',σ,by simp[execOp,ho,h1],.inr ⟨rfl,rfl⟩,h2,bT σ⟩
 ·rename_i s d x ho
  obtain⟨v',w',σ',h1,h2,h3⟩:=si hr (hE x (by simp[ho,Op.operands])) hl
  exact⟨_,v',w',σ',by simp[execOp,ho,h1],.inl rfl,h2,h3⟩
 ·rename_i c ho
  have arg:∀{u:Value},tX c fr=some u->∃u',c.args.map ρ = #[u']/\VR σ u u':=by
   intro u hu
   unfold tX at hu
   split at hu
   ·rename_i y hy
    cases hu
    have:c.args = #[y]:=Array.ext' hy
    refine⟨ρ y,by rw[this];simp,hE y ?_⟩
    simp[ho,Op.operands,Call.operands,this]
   ·cases hu
  have args:∀{u z:Value},vm c fr=some (u,z)->∃u' z',c.args.map ρ = #[u',z']/\VR σ u u'/\VR σ z z':=by
   intro u z hu
   unfold vm at hu
   split at hu
   ·rename_i x y hy
    cases hu
    have:c.args = #[x,y]:=Array.ext' hy
    refine⟨ρ x,ρ y,by rw[this];simp,hE x ?_,hE y ?_⟩ <;>simp[ho,Op.operands,Call.operands,this]
   ·cases hu
  have typ:∀{d:TypeDesc},eD P c=some d->∃t,c.argTypes[0]? = some t/\eD P c=P.underlying t:=by
   intro d hd
   unfold eD at hd⊢
   split at hd
   ·rename_i t ts ht
    exact⟨t,by rw[<-Array.getElem?_toList,ht];rfl,rfl⟩
   ·cases hd
  have typ':∀{d:TypeDesc},wD P c=some d->∃t,c.argTypes[1]? = some t/\wD P c=P.underlying t:=by
   intro d hd
   unfold wD at hd⊢
   split at hd
   ·rename_i t0 t ts ht
    exact⟨t,by rw[<-Array.getElem?_toList,ht];rfl,rfl⟩
   ·cases hd
  unfold BU at hl
  split at hl
  ·rename_i hb
   split at hl
   ·rename_i s x ha
    obtain⟨s',x',e1,e2,e3⟩:=args ha
    cases hq:eD P c with
    | none=>rw[hq]at hl;simp[ai]at hl
    | some d=>
     cases hq2:wD P c with
     | none=>rw[hq2]at hl;simp[ai]at hl
     | some d2=>
      obtain⟨t,ht,r1⟩:=typ hq
      obtain⟨t2,ht2,r2⟩:=typ' hq2
      rw[r1,r2]at hl
      obtain⟨v',w',σ',h1,h2,h3⟩:=oI (ty:=o.type) hr ht ht2 e2 e3 hl
      exact⟨_,v',w',σ',by simp only[execOp,ho,resolve,hb,e1,Sem.run_bind,Sem.run_pure,Result.andThen_ok,invoke,builtin,h1],.inl rfl,h2,h3⟩
   ·cases hl
  ·rename_i hb
   split at hl
   ·rename_i x ha
    obtain⟨x',e1,e2⟩:=arg ha
    cases hq:eD P c with
    | none=>rw[hq]at hl;simp[gL]at hl
    | some d=>
     obtain⟨t,ht,r1⟩:=typ hq
     rw[r1]at hl
     obtain⟨v',w',σ',h1,h2,h3⟩:=qD (ty:=o.type) hr ht e2 hl
     exact⟨_,v',w',σ',by simp only[execOp,ho,resolve,hb,e1,Sem.run_bind,Sem.run_pure,Result.andThen_ok,invoke,builtin,h1],.inl rfl,h2,h3⟩
   ·cases hl
  ·rename_i hb
   split at hl
   ·rename_i x s ha
    obtain⟨x',s',e1,e2,e3⟩:=args ha
    cases hq:eD P c with
    | none=>rw[hq]at hl;simp[iN]at hl
    | some d=>
     obtain⟨t,ht,r1⟩:=typ hq
     rw[r1]at hl
     obtain⟨v',w',σ',h1,h2,h3⟩:=sf (ty:=o.type) hr ht e2 e3 hl
     exact⟨_,v',w',σ',by simp only[execOp,ho,resolve,hb,e1,Sem.run_bind,Sem.run_pure,Result.andThen_ok,invoke,builtin,h1],.inl rfl,h2,h3⟩
   ·cases hl
  ·cases hl
 ·cases hl
end
end Eva
end
section
open Go Go.RowKit
namespace Eva
section
variable {P:Program}{σ:Ren}{w:World}
def TR (σ:Ren) (fr:Fr) (a:Act) (t:Nat):Prop:=VR σ (cd (fr.get t)) (a.tmps.getD t undef)
structure ARx (σ:Ren) (fr:Fr) (a:Act) (X:Nat->Prop):Prop where
 n:fr.n=a.tmps.size
 d:a.defers = []
 t:∀t,¬X t->TR σ fr a t
abbrev AR (σ:Ren) (fr:Fr) (a:Act):Prop:=ARx σ fr a (λ_=>False)
theorem ARx.mono {σ σ':Ren}{fr:Fr}{a:Act}{X:Nat->Prop}(h:ARx σ fr a X) (hle:Ren.le σ σ'):ARx σ' fr a X:=⟨h.n,h.d,λt ht=>(h.t t ht).mono hle⟩
theorem fX {fr:Fr}{d:Nat}{v:Value}(h:d<fr.n):(fr.put d v).get d=some v:=by
 unfold Fr.put Fr.get
 rw[show Nat.blt d fr.n=true from Nat.ble_eq_true_of_le h]
 exact Tr.get_set _ _ _
theorem mN {fr:Fr}{d t:Nat}{v:Value}(h:t≠d):(fr.put d v).get t=fr.get t:=by
 unfold Fr.put Fr.get
 cases Nat.blt d fr.n
 ·rfl
 ·exact Tr.get_set_ne _ _ (Ne.symm h)
theorem lq {fr:Fr}{d t:Nat}{v:Value}(h:¬d<fr.n):fr.put d v=fr:=by
 unfold Fr.put
 have:Nat.blt d fr.n=false:=by
  cases hb:Nat.blt d fr.n with
  | false=>rfl
  | true=>exact absurd (cW hb) h
 rw[this];rfl
theorem Dw {fr:Fr}{d:Nat}{v:Value}:(fr.put d v).n=fr.n:=by
 unfold Fr.put;cases Nat.blt d fr.n <;>rfl
theorem mO {fr:Fr}{d:Option Tmp}{v:Value}:(cT fr d v).n=fr.n:=by
 cases d <;>simp[cT,Dw]
theorem ei {fr:Fr}{d:Option Tmp}{v:Value}{t:Nat}(h:d≠some t):(cT fr d v).get t=fr.get t:=by
 cases d with
 | none=>rfl
 | some d=>exact mN (λe=>h (by rw[e]))
theorem lw (a:Act) (d:Option Tmp) (v:Value) (t:Nat):(a.put d v).tmps.getD t undef=if d=some t/\t<a.tmps.size then v else a.tmps.getD t undef:=by
 cases d with
 | none=>simp[Act.put]
 | some d=>
  simp only[Act.put,Array.getD_eq_getD_getElem?,Array.getElem?_setIfInBounds,Option.some.injEq]
  by_cases e:d=t
  ·subst e
   by_cases h:d<a.tmps.size
   ·simp[h]
   ·simp[h]
  ·simp[e]
theorem dV (a:Act) (d:Option Tmp) (v:Value):(a.put d v).tmps.size=a.tmps.size:=by cases d <;>simp[Act.put]
theorem gU (a:Act) (d:Option Tmp) (v:Value):(a.put d v).defers=a.defers:=by cases d <;>rfl
theorem ARx.put {fr:Fr}{a:Act}{X:Nat->Prop}(h:ARx σ fr a X){d:Option Tmp}{v v':Value}(hv:VR σ v v'):ARx σ (cT fr d v) (a.put d v') X:=by
 refine⟨by rw[mO,dV];exact h.n,by rw[gU];exact h.d,λt ht=>?_⟩
 unfold TR
 rw[lw]
 by_cases hd:d=some t
 ·subst hd
  by_cases hlt:t<a.tmps.size
  ·rw[if_pos ⟨rfl,hlt⟩]
   simp only[cT]
   rw[fX (by rw[h.n];exact hlt)]
   exact hv
  ·rw[if_neg (λy=>hlt y.2)]
   simp only[cT]
   rw[lq (t:=t) (by rw[h.n];exact hlt)]
   exact h.t t ht
 ·rw[if_neg (λy=>hd y.1),ei hd]
  exact h.t t ht
theorem wP {ops:Array Oper}{o:Oper}{t:Nat}(h:Operand.tmp t∈o.op.operands):t∈o.looksAt ops:=
 List.mem_append_left _ (List.mem_filterMap.2 ⟨.tmp t,by simpa using h,rfl⟩)
theorem qF {ops:Array Oper}{o:Oper}{fr:Fr}{a:Act}(hc:bB o=true) (h:∀t∈o.looksAt ops,TR σ fr a t):OkE σ fr a.eval o:=by
 intro x hx
 have h1:=aQ hc x (by simpa using hx)
 cases x with
 | tmp t=>exact h t (wP hx)
 | const v=>exact cV h1
 | global g=>cases h1
 | func f=>exact .func _ rfl (λi v v' y=>by simp at y) rfl (λi v v' y=>by simp at y)
def asB:Option Value->Option Bool
 | some (.bool c)=>some c
 | _=>none
theorem Cs {o:Option Value}{p:Option Value}{b:Bool}(h:VR σ (cd o) (p.getD undef)) :
  isB b o=(asB p == some b):=by
 cases o with
 | none=>
  simp only[cd]at h
  cases p with
  | none=>rfl
  | some v=>
   simp only[Option.getD_some]at h
   unfold undef at h
   cases h
   rfl
 | some u=>
  simp only[cd]at h
  cases p with
  | none=>
   simp only[Option.getD_none]at h
   unfold undef at h
   cases h with
   | any _ hv=>rfl
   | _=>rfl
  | some v=>
   simp only[Option.getD_some]at h
   cases h with
   | bool c=>cases b <;>cases c <;>rfl
   | any _ hv=>cases v <;>first | rfl | (simp[Cq]at hv)
   | _=>rfl
theorem lZ {ops:Array Oper}{o:Oper}{fr:Fr}{a:Act}(h:∀t∈o.looksAt ops,TR σ fr a t):Region.wanted o (yielded ops a.tmps)=cS ops fr o:=by
 unfold Region.wanted cS
 cases hg:o.guard with
 | none=>rfl
 | some gw=>
  obtain⟨j,b⟩:=gw
  simp only
  unfold yielded
  cases hj:ops[j]? with
  | none=>rfl
  | some g=>
   simp only[Option.bind_some]
   cases hd:g.dst with
   | none=>rfl
   | some d=>
    simp only[Option.bind_some]
    have hl:d∈o.looksAt ops:=by
     refine List.mem_append_right _ ?_
     rw[hg]
     simp[hj,hd]
    have:=h d hl
    unfold TR at this
    rw[Array.getD_eq_getD_getElem?]at this
    rw[Cs this]
    congr 1
def dm (P:Program) (call:Rec):Prop:=
 ∀g args h v h',call g args h=some (v,h')->∀(σ:Ren) (w:World) (args':Array Value),HR P σ h w->VRs σ args args'.toList->
  Calls P g args' w (λe w'=>∃v' σ',e = .returned v'/\St P σ h w σ' h' w'/\VR σ' v v')
theorem qG {o:Oper}{fr:Fr}{ρ:Operand->Value}(hE:OkE σ fr ρ o){g:FuncId}{args:List Value}(h:callee P o fr=some (g,args)) :
  ∃args':Array Value,(execOp ρ o).run P w = .ok (.enter g args') w/\VRs σ args args'.toList:=by
 unfold callee at h
 split at h
 ·rename_i c ho
  split at h
  ·rename_i f hf
   have hops:∀x∈c.operands,VR σ (ev fr x) (ρ x):=λx hx=>hE x (by simpa[ho,Op.operands]using hx)
   have hfv:=hops f (by simp[Call.operands,hf])
   unfold vo at h
   split at h
   ·rename_i g' a b hef
    obtain⟨h1,h2⟩:=ae h
    cases h2
    rw[hef]at hfv
    generalize hρ:ρ f=f' at hfv
    cases hfv with
    | @func _ _ a' _ b' s1 x1 s2 x2=>
     unfold eZ at h1
     split at h1
     ·rename_i fn hfn
      obtain⟨q1,q2⟩:=ak h1
      have q2:(fn.name == "runtime.NumGoroutine")=false:=by simpa using q2
      have q1:fn.body.isNone=false:=by cases hb:fn.body <;>simp_all
      refine⟨a' ++ c.args.map ρ ++ b',?_,?_⟩
      ·simp only[execOp,ho,resolve,hf,hρ,Deferred.ofValue,Sem.run_bind,Sem.run_pure,Result.andThen_ok,invoke,callFunc,program,Sem.run,hfn,q2,q1,Bool.false_eq_true,if_false]
      ·have m:VRs σ (c.args.toList.map (ev fr)) (c.args.map ρ).toList:=by
        rw[Array.toList_map]
        exact VRs.of_map _ _ _ λx hx=>hops x (by simp[Call.operands,hf];right;simpa using hx)
       have ha:VRs σ a.toList a'.toList:=⟨by simpa using s1,λi v v' y z=>x1 i v v' (by simpa using y) (by simpa using z)⟩
       have hb:VRs σ b.toList b'.toList:=⟨by simpa using s2,λi v v' y z=>x2 i v v' (by simpa using y) (by simpa using z)⟩
       simpa using(ha.append m).append hb
     ·cases h1
   ·cases h
  ·cases h
 ·cases h
theorem uh {o:Oper}(h:aD P o = .loud):iO o=true:=by
 unfold aD at h
 unfold iO
 split <;>simp_all
theorem ui {call:Rec}(hcall:dm P call){o:Oper}{a:Act}{fr fr':Fr}{h h':AH}(hk:aD P o = .loud) (hr:HR P σ h w) (hE:OkE σ fr a.eval o)
  (hop:opK P call o fr h .loud=some (fr',h')){K:Act->World->Prop}{Q:Exit->Act->World->Prop}
  (hK:∀v v' w' σ',fr' = cT fr o.dst v->St P σ h w σ' h' w'->VR σ' v v'->K (a.put o.dst v') w'):o.wp P a w K Q:=by
 have hop':kZ P call o fr h (evL P o fr h)=some (fr',h'):=hop
 unfold kZ at hop'
 unfold Oper.wp
 split at hop'
 ·rename_i v h1 hl
  cases hop'
  obtain⟨nx,v',w',σ',r1,r2,r3,r4⟩:=wO hr hE hl
  rw[r1]
  rcases r2 with rfl | ⟨rfl,rfl⟩
  ·exact hK v v' w' σ' rfl r3 r4
  ·exact hK v undef w' σ' rfl r3 r4
 ·unfold rQ at hop'
  split at hop'
  ·rename_i g args hc
   obtain⟨args',r1,r2⟩:=qG (w:=w) hE hc
   rw[r1]
   cases hcl:call g args h with
   | none=>rw[hcl]at hop';cases hop'
   | some vh=>
    obtain⟨v,h1⟩:=vh
    rw[hcl]at hop'
    cases hop'
    have:=hcall g args h v _ hcl σ w args' hr r2
    refine Calls.mono this (λe w' he=>?_)
    obtain⟨v',σ',rfl,hs,hv⟩:=he
    exact hK v v' w' σ' rfl hs hv
  ·cases hg:gen P o fr with
   | none=>rw[hg]at hop';cases hop'
   | some v=>
    rw[hg]at hop'
    cases hop'
    obtain⟨r1,r2⟩:=cN (w:=w) (uh hk) hE hg
    rw[r1]
    exact hK v v w σ rfl (St.refl hr) r2
theorem ky {call:Rec}(hcall:dm P call){o:Oper}{a:Act}{fr fr':Fr}{h h':AH}(hr:HR P σ h w) (hE:OkE σ fr a.eval o)
  (hop:opK P call o fr h (aD P o)=some (fr',h')){K:Act->World->Prop}{Q:Exit->Act->World->Prop}
  (hK:∀v v' w' σ',fr' = cT fr o.dst v->St P σ h w σ' h' w'->VR σ' v v'->K (a.put o.dst v') w'):o.wp P a w K Q:=by
 cases hk:aD P o with
 | loud=>rw[hk]at hop;exact ui hcall hk hr hE hop hK
 | val=>
  rw[hk]at hop
  have hop':yj fr h o.dst (evV P o fr h)=some (fr',h'):=hop
  cases hv:evV P o fr h with
  | none=>rw[hv]at hop';cases hop'
  | some v=>
   rw[hv]at hop';cases hop'
   obtain⟨v',r1,r2⟩:=pq hr hE hv
   unfold Oper.wp
   rw[r1]
   exact hK v v' w σ rfl (St.refl hr) r2
 | lay=>
  rw[hk]at hop
  have hop':AE fr h o.dst (evA P o fr)=some (fr',h'):=hop
  cases hv:evA P o fr with
  | none=>rw[hv]at hop';cases hop'
  | some bf=>
   obtain⟨b,f⟩:=bf
   rw[hv]at hop';cases hop'
   obtain⟨v',ob',w',E,r1,r2,r3,r4⟩:=pt (w:=w) hE hv
   unfold Oper.wp
   rw[r1]
   exact hK (f h.next) v' w' _ rfl (St.laid hr r2 r3) (r4 _ _ (Ren.put_same _ _ _ _) (Ren.put_e _ _ _ _))
theorem ej {call:Rec}(hcall:dm P call){ops:Array Oper}{Q:Exit->Act->World->Prop}:∀(l:List Nat) (os:List Oper){σ:Ren}{w:World}{a:Act}{fr fr':Fr}{h h':AH},
  l.map (λi=>ops[i]?)=os.map some->HR P σ h w->AR σ fr a->ee P call ops os fr h=some (fr',h')->
  (∀σ' a' w',St P σ h w σ' h' w'->AR σ' fr' a'->Q .normal a' w')->wpOps P ops Q l a w
 | [],os,σ,w,a,fr,fr',h,h',hl,hr,hA,ho,hQ=>by
  have:os = []:=by cases os <;>simp_all
  subst this
  have ho':some (fr,h)=some (fr',h'):=ho
  cases ho'
  exact hQ σ a w (St.refl hr) hA
 | i :: l,os,σ,w,a,fr,fr',h,h',hl,hr,hA,ho,hQ=>by
  cases os with
  | nil=>simp at hl
  | cons o os=>
   simp only[List.map_cons,List.cons.injEq]at hl
   obtain⟨hi,hl⟩:=hl
   have ho':ip (ee P call ops os) (op1 P call ops o fr h)=some (fr',h'):=ho
   cases h1:op1 P call ops o fr h with
   | none=>rw[h1]at ho';cases ho'
   | some fh=>
    obtain⟨fr1,h1'⟩:=fh
    rw[h1]at ho'
    have ho2:ee P call ops os fr1 h1' = some (fr',h'):=ho'
    have hT:∀t∈o.looksAt ops,TR σ fr a t:=λt _=>hA.t t (λx=>x)
    have hw:=lZ (ops:=ops) (o:=o) hT
    simp only[wpOps,hi]
    unfold op1 at h1
    cases hwant:cS ops fr o with
    | false=>
     rw[hwant]at h1 hw
     simp only[cond_false]at h1
     cases h1
     simp only[hw,Bool.false_eq_true,if_false]
     exact ej hcall l os hl hr (hA.put (bT σ)) ho2 hQ
    | true=>
     rw[hwant]at h1 hw
     simp only[cond_true]at h1
     obtain⟨hc,h2⟩:=ae h1
     simp only[hw,if_true]
     refine .inl (ky hcall hr (qF hc hT) h2 ?_)
     rintro v v' w' σ' rfl hs hv
     exact ej hcall l os hl hs.hr ((hA.mono hs.ext).put hv) ho2 (λσ2 a2 w2 hs2 hA2=>hQ σ2 a2 w2 (hs.trans hs2) hA2)
end
end Eva
end
end Go.Proofs.YtaomlhopkfmheaaGreatDoor
