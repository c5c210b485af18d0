/-
Lemmas for TopHops. No condition.
-/
import Derived.Test.YtmbadhdpcdbdbaaGreatDoorPz
import Derived.WalkKit
import Derived.ProofKit
import Derived.Deep.Slices
import Derived.Deep.Draws
import Derived.Lib.Hide
import Derived.ReadAgain
import Derived.Below
import Derived.ChangeSame
import Derived.Lib.SmallJoins
import Derived.Deep.AppendLies
import Derived.Laws.MakeOwn
import Derived.Test.YtmbadhdpcdbdbaaGreatDoorProg
import Derived.Deep.QuietTactic
import Derived.BigQuiet
import Derived.WalkSpells
import Derived.BigGuardPart
namespace Go.Proofs.YtmbadhdpcdbdbaaGreatDoor
open _root_.Go.IntKind renaming i64->ν
open _root_.Go.Value renaming int->η,slice->ψ
open _root_.Option renaming none->ξ,some->ω
set_option linter.unusedVariables false
set_option linter.unusedSimpArgs false
set_option linter.unusedSectionVars false
set_option linter.unnecessarySimpa false
section
open Go Go.RowKit
structure Rd (α:Type) where
 size:Nat
 rel:(Nat->Prop)->World->List Value->α->Prop
 len:∀{F w cs x},rel F w cs x->cs.length=size
 one:∀{F w cs x},rel F w cs x->∀u∈cs,u.oneCell' = true
 keep:∀{F w w' cs x},(∀b,F b->b<w.heap.size->w'.heap[b]? = w.heap[b]?)->rel F w cs x->rel F w' cs x
 mono:∀{F G w cs x},(∀b,F b->b<w.heap.size->G b)->rel F w cs x->rel G w cs x
abbrev my (w w':World):Prop:=Below w.heap.size w w'
theorem my.refl (w:World):my w w:=Below.refl _ _
theorem my.trans {a b c:World}(h:my a b) (k:my b c):my a c:=Below.trans h (Below.mono k h.size)
theorem my.drewN (w:World) (n:Nat):my w (w.drewN n):=⟨rfl,rfl,rfl,Nat.le_refl _,λ_ _=>rfl⟩
theorem my.dr {a w:World}(h:my a w):my a w.drew:=Below.drew h
theorem my.dn {a w:World}{n:Nat}(h:my a w):my a (w.drewN n):=my.trans h (my.drewN w n)
structure Sl {α:Type}(r:Rd α) (F:Nat->Prop) (w:World) (A:Option Addr) (n c:Nat) (xs:List α):Prop where
 len:xs.length=n
 le:n<=c
 max:c<=maxLen
 at_:0<n->∃b o,A=ω ⟨b,o,ξ⟩/\F b/\b<w.heap.size/\∀k x,xs[k]? = ω x->
  ∃cs,(∀j u,cs[j]? = ω u->w.cell? ⟨b,o+(k*r.size+j),ξ⟩=ω u)/\r.rel F w cs x
theorem y7 {w w':World}{b o:Nat}(h:w'.heap[b]? = w.heap[b]?):w'.cell? ⟨b,o,ξ⟩=w.cell? ⟨b,o,ξ⟩:=World.cell?_of_block (w:=w) h
theorem Dp {w w':World}{b:Nat}(h:w'.heap[b]? = w.heap[b]?) (hb:b<w.heap.size):b<w'.heap.size:=by
 rw[Array.getElem?_eq_getElem hb]at h;exact(Array.getElem?_eq_some_iff.1 h).1
section
variable {α:Type}{r:Rd α}{F G:Nat->Prop}{w w':World}{A:Option Addr}{n c:Nat}{xs:List α}
theorem Sl.keep (hk:∀b,F b->b<w.heap.size->w'.heap[b]? = w.heap[b]?) (h:Sl r F w A n c xs):Sl r F w' A n c xs:=by
 refine⟨h.len,h.le,h.max,λhn=>?_⟩;obtain⟨b,o,hA,hF,hb,hx⟩:=h.at_ hn;refine⟨b,o,hA,hF,Dp (hk b hF hb) hb,λk x hkx=>?_⟩;obtain⟨cs,hc,hr⟩:=hx k x hkx;exact⟨cs,λj u hu=>(y7 (hk b hF hb)).trans (hc j u hu),r.keep hk hr⟩
theorem Sl.mono (hFG:∀b,F b->b<w.heap.size->G b) (h:Sl r F w A n c xs):Sl r G w A n c xs:=by
 refine⟨h.len,h.le,h.max,λhn=>?_⟩;obtain⟨b,o,hA,hF,hb,hx⟩:=h.at_ hn;refine⟨b,o,hA,hFG b hF hb,hb,λk x hkx=>?_⟩;obtain⟨cs,hc,hr⟩:=hx k x hkx;exact⟨cs,hc,r.mono hFG hr⟩
theorem Sl.ext (h:Sl r F w A n c xs) (he:my w w'):Sl r F w' A n c xs:=h.keep (λb _ hb=>he.block b hb)
theorem Sl.drewN (h:Sl r F w A n c xs) (k:Nat):Sl r F (w.drewN k) A n c xs:=h.ext (my.drewN w k)
theorem Sl.alloc (h:Sl r F w A n c xs) (o:Obj):Sl r F (w.alloc o) A n c xs:=
 h.keep (λb _ hb=>Below.heap_alloc w o b hb)
theorem Sl.setCell (h:Sl r F w A n c xs){p:Addr}(hp:¬F p.block) (u:Value):Sl r F (w.setCell p u) A n c xs:=
 h.keep (λb hF _=>Below.heap_setCell w p u b (λe=>hp (e ▸ hF)))
theorem Sl.grown (h:Sl r F w A n c xs){row:Option Nat}(hg:w.grownBy w' row) (hr:∀g,row=ω g->¬F g):Sl r F w' A n c xs:=
 h.keep (λb hF hb=>hg.block b hb (λe=>hr b e.symm hF))
theorem Sl.lt (h:Sl r F w A n c xs):Sl r (λb=>b<w.heap.size) w A n c xs:=h.mono λ_ _ hb=>hb
theorem Sl.nil (r:Rd α) (F:Nat->Prop) (w:World):Sl r F w ξ 0 0 []:=⟨rfl,Nat.le_refl _,Nat.zero_le _,λh=>absurd h U⟩
theorem Sl.empty (h:Sl r F w A 0 c xs):xs = []:=List.eq_nil_of_length_eq_zero h.len
theorem Sl.get (h:Sl r F w A n c xs){k:Nat}(hk:k<n):∃b o x cs,A=ω ⟨b,o,ξ⟩/\F b/\b<w.heap.size/\xs[k]? = ω x/\
  (∀j u,cs[j]? = ω u->w.cell? ⟨b,o+(k*r.size+j),ξ⟩=ω u)/\r.rel F w cs x:=by
 obtain⟨b,o,hA,hF,hb,hx⟩:=h.at_ U;have hl:k<xs.length:=by rw[h.len];exact hk
 obtain⟨cs,hc,hr⟩:=hx k xs[k] (List.getElem?_eq_getElem hl);exact⟨b,o,xs[k],cs,hA,hF,hb,List.getElem?_eq_getElem hl,hc,hr⟩
end
def Rd.int (k:IntKind):Rd Int where
 size:=1
 rel:=λ_ _ cs x=>cs = [.int k x]/\(Lit.int k x).wf=true
 len:=λh=>by rw[h.1];rfl
 one:=λh u hu=>by rw[h.1]at hu;simp at hu;subst hu;rfl
 keep:=λ_ h=>h
 mono:=λ_ h=>h
def Rd.bool:Rd Bool where
 size:=1
 rel:=λ_ _ cs x=>cs = [.bool x]
 len:=λh=>by rw[h];rfl
 one:=λh u hu=>by rw[h]at hu;simp at hu;subst hu;rfl
 keep:=λ_ h=>h
 mono:=λ_ h=>h
def Rd.slice {α:Type}(r:Rd α):Rd (List α) where
 size:=1
 rel:=λF w cs xs=>∃A n c,cs = [ψ A n c]/\Sl r F w A n c xs
 len:=λ⟨_,_,_,h,_⟩=>by rw[h];rfl
 one:=λ⟨_,_,_,h,_⟩ u hu=>by rw[h]at hu;simp at hu;subst hu;rfl
 keep:=λhk ⟨A,n,c,h,hs⟩=>⟨A,n,c,h,hs.keep hk⟩
 mono:=λhFG ⟨A,n,c,h,hs⟩=>⟨A,n,c,h,hs.mono hFG⟩
def Rd.tri (k k' k'':IntKind):Rd (Int×Int×Int) where
 size:=3
 rel:=λ_ _ cs x=>cs = [.int k x.1,.int k' x.2.1,.int k'' x.2.2]/\(Lit.int k x.1).wf=true/\(Lit.int k' x.2.1).wf=true/\(Lit.int k'' x.2.2).wf=true
 len:=λh=>by rw[h.1];rfl
 one:=λh u hu=>by rw[h.1]at hu;simp at hu;rcases hu with rfl | rfl | rfl <;>rfl
 keep:=λ_ h=>h
 mono:=λ_ h=>h
def Rd.part:Rd (ByteArray×Int) where
 size:=2
 rel:=λ_ _ cs x=>cs = [.string x.1,η ν x.2]/\x.1.size<=maxLen/\(Lit.int .i64 x.2).wf=true
 len:=λh=>by rw[h.1];rfl
 one:=λh u hu=>by rw[h.1]at hu;simp at hu;rcases hu with rfl | rfl <;>rfl
 keep:=λ_ h=>h
 mono:=λ_ h=>h
theorem sI {x:Int}(h:(Lit.int .i64 x).wf=true):-9223372036854775808<=x/\x<=9223372036854775807:=by
 simp[Lit.wf,IntKind.min,IntKind.max,IntKind.signed,IntKind.bits]at h;omega
section
variable {F:Nat->Prop}{w:World}{A:Option Addr}{n c:Nat}
theorem Sl.int {xs:List Int}(h:Sl (Rd.int .i64) F w A n c xs){k:Nat}(hk:k<n) :
  ∃b o x,A=ω ⟨b,o,ξ⟩/\b<w.heap.size/\Hid (xs[k]? = ω x)/\w.cell? ⟨b,o+k,ξ⟩=ω (η ν x)/\-9223372036854775808<=x/\x<=9223372036854775807:=by
 obtain⟨b,o,x,cs,hA,_,hlt,hx,hc,hcs,hwf⟩:=h.get hk;have hb:=sI hwf;refine⟨b,o,x,hA,hlt,hx,?_,hb.1,hb.2⟩;have:=hc 0 (η ν x) (by rw[hcs];rfl);simpa[Rd.int]using this
theorem Sl.bool {xs:List Bool}(h:Sl Rd.bool F w A n c xs){k:Nat}(hk:k<n) :
  ∃b o x,A=ω ⟨b,o,ξ⟩/\b<w.heap.size/\Hid (xs[k]? = ω x)/\w.cell? ⟨b,o+k,ξ⟩=ω (.bool x):=by
 obtain⟨b,o,x,cs,hA,_,hlt,hx,hc,hcs⟩:=h.get hk;refine⟨b,o,x,hA,hlt,hx,?_⟩;have:=hc 0 (.bool x) (by rw[hcs];rfl);simpa[Rd.bool]using this
theorem Sl.row {α:Type}{r:Rd α}{xs:List (List α)}(h:Sl (Rd.slice r) F w A n c xs){k:Nat}(hk:k<n) :
  ∃b o A' n' c' x,A=ω ⟨b,o,ξ⟩/\b<w.heap.size/\Hid (xs[k]? = ω x)/\w.cell? ⟨b,o+k,ξ⟩=ω (ψ A' n' c')/\Sl r F w A' n' c' x:=by
 obtain⟨b,o,x,cs,hA,_,hlt,hx,hc,A',n',c',hcs,hs⟩:=h.get hk;refine⟨b,o,A',n',c',x,hA,hlt,hx,?_,hs⟩;have:=hc 0 (ψ A' n' c') (by rw[hcs];rfl);simpa[Rd.slice]using this
end
theorem Sl.tri {F:Nat->Prop}{w:World}{A:Option Addr}{n c:Nat}{xs:List (Int×Int×Int)}(h:Sl (Rd.tri .i64 .i64 .i64) F w A n c xs){k:Nat}(hk:k<n) :
  ∃b o x y z,A=ω ⟨b,o,ξ⟩/\b<w.heap.size/\Hid (xs[k]? = ω (x,y,z))/\
   w.cell? ⟨b,o+k*3,ξ⟩=ω (η ν x)/\w.cell? ⟨b,o+k*3+1,ξ⟩=ω (η ν y)/\w.cell? ⟨b,o+k*3+2,ξ⟩=ω (η ν z)/\
   (-9223372036854775808<=x/\x<=9223372036854775807)/\(-9223372036854775808<=y/\y<=9223372036854775807)/\(-9223372036854775808<=z/\z<=9223372036854775807):=by
 obtain⟨b,o,x,cs,hA,_,hb,hx,hc,hcs,hwf,hwf',hwf''⟩:=h.get hk;have h0:=hc 0 (η ν x.1) (by rw[hcs];rfl);have h1:=hc 1 (η ν x.2.1) (by rw[hcs];rfl);have h2:=hc 2 (η ν x.2.2) (by rw[hcs];rfl);exact⟨b,o,x.1,x.2.1,x.2.2,hA,hb,hx,by simpa[Rd.tri]using h0,by simpa[Rd.tri,Nat.add_assoc]using h1,by simpa[Rd.tri,Nat.add_assoc]using h2,sI hwf,sI hwf',sI hwf''⟩
def mT (w:World) (g:Nat) (t:TypeId) (cs:Array Value):Prop:=w.heap[g]? = ω (.cells cs t (0,0))
section
variable {w w':World}{g:Nat}{t:TypeId}{cs:Array Value}
theorem mT.lt (h:mT w g t cs):g<w.heap.size:=by
 rcases Nat.lt_or_ge g w.heap.size with hlt | hge
 .exact hlt
 .unfold mT at h;rw[Array.getElem?_eq_none hge]at h;cases h
theorem mT.cell (h:mT w g t cs) (i:Nat):w.cell? ⟨g,i,ξ⟩=cs[i]?:=cell_of_row w g i cs t (0,0) h
theorem mT.frozen (h:mT w g t cs) (i:Nat):w.frozen? ⟨g,i,ξ⟩=false:=by
 unfold mT at h;simp[World.frozen?,h]
theorem mT.drew (h:mT w g t cs):mT w.drew g t cs:=h
theorem mT.drewN (h:mT w g t cs) (n:Nat):mT (w.drewN n) g t cs:=h
theorem mT.alloc (h:mT w g t cs) (o:Obj):mT (w.alloc o) g t cs:=(Below.heap_alloc w o g h.lt).trans h
theorem mT.ext (h:mT w g t cs) (hb:my w w'):mT w' g t cs:=(hb.block g h.lt).trans h
theorem mT.grown {row:Option Nat}(h:mT w g t cs) (hb:w.grownBy w' row) (hg:ω g≠row):mT w' g t cs:=(hb.block g h.lt hg).trans h
end
theorem Sl.of_own {α:Type}{r:Rd α}{w:World}{base:Nat}{e:TypeId}{A:Option Addr}{n c:Nat}{cells:List Value}{xs:List α}{F:Nat->Prop}
  (h:w.ownsRow base e r.size (ψ A n c) n cells) (hl:xs.length=n) (hF:∀g,base<=g->F g)
  (hx:∀k x,xs[k]? = ω x->r.rel F w ((cells.drop (k*r.size)).take r.size) x):Sl r F w A n c xs:=by
 obtain⟨hlen,hh⟩:=h;rcases hh with⟨he,hn⟩ | ⟨g,cap,cur,hv,hb,hg,hle,hmax,hsz,htake⟩
 .injection he with e1 e2 e3;subst e1 hn e3;exact⟨hl,Nat.le_refl _,Nat.zero_le _,λh=>absurd h U⟩
 .injection hv with e1 e2 e3;subst e1 e3;refine⟨hl,hle,hmax,λ_=>⟨g,0,rfl,hF g hb,(Array.getElem?_eq_some_iff.1 hg).1,λk x hk=>⟨_,λj u hu=>?_,hx k x hk⟩⟩⟩;rw[List.getElem?_take]at hu
  split at hu
  .rw[List.getElem?_drop,<-htake,List.getElem?_take]at hu
   split at hu
   .rw[cell_of_row w g _ cur e (0,0) hg];simpa using hu
   .cases hu
  .cases hu
end
section
open Go Go.RowKit Go.ChangeShapes Go.WideShapes Go.Deep Go.Joins
section
variable {H:Type}{enc:TypeId×Value->H}{P:Program}{w w':World}{base:Nat}{sp:Nat->Bool}{held:Bool}
theorem wv (h:my w w') (p:MemPlace) (hp:p.block<w.heap.size):w.sameAt w' p:=by
 cases p with
 | cell b off=>exact h.cell (p:=⟨b,off,ξ⟩) hp
 | map b=>exact h.block b hp
theorem Bl (h:my w w'){t:TypeId}{v:Value}{d:DataW H}{ps:List MemPlace}(ht:DataW.Trod enc P w base sp held t v d ps) (hp:∀p∈ps,p.block<w.heap.size):DataW.Trod enc P w' base sp held t v d ps:=by
 obtain⟨n,hn⟩:=ht;exact⟨n,DataW.trod_carry n _ _ _ hn λp hpp=>wv h p (hp p hpp)⟩
theorem mz (h:my w w'):∀{ts:List TypeId}{vs:List Value}{ds:List (DataW H)}{ps:List MemPlace},DataW.TrodAll enc P w base sp held ts vs ds ps->(∀p∈ps,p.block<w.heap.size)->DataW.TrodAll enc P w' base sp held ts vs ds ps
 | [],[],[],_,ht,_=>ht
 | _ :: _,_ :: _,_ :: _,_,⟨p,q,h1,h2,e⟩,hp=>⟨p,q,Bl h h1 (λx hx=>hp x (by rw[e];exact List.mem_append_left _ hx)),mz h h2 (λx hx=>hp x (by rw[e];exact List.mem_append_right _ hx)),e⟩
theorem post_true {f:Func}{s:ChangeSpec}{W W':World}{args:Array Value}{ds:List (DataW H)}{before:List MemPlace}{fresh handsOn again:Bool}{tb:TypeId}
  (K:Kids P (· < P.types.size)) (hz:∀t e,t<P.types.size->P.underlying t=ω (.slice e)->0<P.cellsOf e) (hts:∀t∈f.params.toList,t<P.types.size)
  (hvars:s.vars = []) (hb:P.underlying tb=ω .bool) (hr:f.resultTypes = #[tb])
  (hfn:(s.fn H (ds ++ [])).results = [.lit (.bool true)]/\(s.fn H (ds ++ [])).args=ds/\(s.fn H (ds ++ [])).vars = [])
  (hW:DataW.Whole enc P f.params.toList s.vars false W args.toList ds [] before) (he:my W W'):s.post enc P f false fresh handsOn again W args (.bool true) W':=by
 have hW':=hW;obtain⟨p,q,hA0,hV,rfl,hfz,hnd⟩:=hW;rw[hvars]at hV;obtain⟨-,rfl⟩:=trodVars_none hV;have hlt:∀x∈p,x.block<W.heap.size:=DataW.TrodAll.lt hA0;simp only[List.append_nil]at hW';have hold:∀x∈p,(λb=>decide (b<W.heap.size)) x.block=true:=λx hx=>by simpa using hlt x hx
 have hargs:∀sp:Nat->Bool,(∀x∈p,sp x.block=true)->DataW.TrodAll enc P W' 0 sp true f.params.toList args.toList ds p:=λsp hsp=>
  mz he (DataW.TrodAll.respare K hz hts hA0 hsp) hlt
 have hres:∀(b:Nat) (sp:Nat->Bool) (hd:Bool),DataW.TrodAll enc P W' b sp hd f.resultTypes.toList ((Value.bool true).resultList f.resultTypes.size) [.lit (.bool true)] []:=λb sp hd=>by
  rw[hr];exact trodAll_cons_mk (shut_bool hb _) trodAll_mk0
 refine⟨ds,[],p,[],p,[],hW',by rw[hfn.1];exact hres _ _ _,by rw[hfn.2.1];exact hargs _ hold,by rw[hvars,hfn.2.2];rfl,World.keptBut_mono (λx hx=>⟨hx,?_⟩) (he.frame (·∈p)),λ_=>?_⟩
 .exact .inr (.inl hx)
 .refine⟨ok_one hr rfl (okWide_bool_mk hb _),_,[],([] ++ p) ++ [],⟨[] ++ p,[],trodAll_append (hargs _ (λ_ _=>rfl)) (hres _ _ _),by rw[hvars];rfl,rfl,?_,?_⟩,?_⟩
  .intro b off hp;have hin:MemPlace.cell b off∈p:=by simpa using hp
   rw[he.frozen (hlt _ hin)];exact hfz b off (by simpa using hin)
  .intro ha;cases ha
  .intro x hx _;simpa using hx
theorem xN {w:World}{a:Addr}{v:Value}(h:w.cell? a=ω v):a.block<w.heap.size:=by
 rcases Nat.lt_or_ge a.block w.heap.size with hlt | hge
 .exact hlt
 .unfold World.cell? at h;rw[Array.getElem?_eq_none hge]at h;cases h
theorem y8 (a:Addr) (n:Nat):(a.add n).block=a.block:=by unfold Addr.add;split <;>rfl
theorem Sl.of_trod {α:Type}{r:Rd α}{F:Nat->Prop}(hF:∀b,F b){t e:TypeId}(ht:P.underlying t=ω (.slice e)) (hc:P.cellsOf e=r.size) (hpos:0<r.size)
  (he:∀n cs x,DataW.trod enc P w base sp held n e cs=ω x->∃a,r.rel F w cs a){fuel:Nat}{cs:List Value}{x:DataW H×List MemPlace}(h:DataW.trod enc P w base sp held fuel t cs=ω x) :
  ∃A n c xs,cs = [ψ A n c]/\Sl r F w A n c xs:=by
 rcases open_slice ht h with⟨hcs,hx⟩ | ⟨a,len,cap,m,n,D,Pl,hcs,hb,hl,hm,hmm,hx,hel⟩
 .exact⟨ξ,0,0,[],hcs,Sl.nil _ _ _⟩
 .have hlm:len<=m:=by rw[hmm];split <;>omega
  have hel':∀i,i<len->∃y:List Value×α,w.cells? base (a.add (i*P.cellsOf e)) (P.cellsOf e)=ω y.1/\r.rel F w y.1 y.2:=λi hi=>by
   obtain⟨cs',h1,h2⟩:=hel i U;obtain⟨z,hz⟩:=he _ _ _ h2;exact⟨(cs',z),h1,hz⟩
  rcases Nat.eq_zero_or_pos len with h0 | h0
  .subst h0;exact⟨ω a,0,cap,[],hcs,rfl,U,hm,λh=>absurd h U⟩
  .obtain⟨y0,-,-⟩:=hel' 0 h0
   haveI:Inhabited (List Value×α):=⟨y0⟩
   obtain⟨f,hf⟩:=choose_lt hel';obtain⟨b,o,spot⟩:=a;have hsz:∀i,i<len->(f i).1.length=r.size/\∀j,j<r.size->w.cell? ((Addr.mk b o spot).add (i*r.size+j))=(f i).1[j]?:=λi hi=>by
    obtain⟨h1,h2⟩:=hf i hi;rw[hc]at h1;obtain⟨-,h3,h4⟩:=World.cells?_some h1;exact⟨h3,λj hj=>by rw[<-h4 j hj,add_add]⟩
   have hspot:spot=none:=by
    obtain⟨h1,h2⟩:=hsz 0 h0;have h3:=h2 0 hpos;rw[List.getElem?_eq_getElem U]at h3;simpa[Addr.add]using World.cell?_spot h3
   subst hspot;have hlt:b<w.heap.size:=by
    obtain⟨h1,h2⟩:=hsz 0 h0;have h3:=h2 0 hpos;rw[List.getElem?_eq_getElem U]at h3;have:=xN h3
    rwa [y8]at this
   refine⟨ω ⟨b,o,ξ⟩,len,cap,(List.range len).map λi=>(f i).2,hcs,by simp,hl,hm,λ_=>⟨b,o,rfl,hF b,hlt,λk x hk=>?_⟩⟩;rw[List.getElem?_map]at hk;by_cases hkl:k<len
   .simp[hkl]at hk;subst hk;obtain⟨h1,h2⟩:=hsz k hkl;refine⟨(f k).1,λj u hu=>?_,(hf k hkl).2⟩;have hj:j<r.size:=by
     rw[<-h1];exact(List.getElem?_eq_some_iff.1 hu).1
    rw[<-hu,<-h2 j hj,Addr.add_lit]
   .simp[hkl]at hk
theorem Bm {t:TypeId}{f0 f1 f2:Field}(hs:P.underlying t=ω (.struct #[f0,f1,f2])) (hone:oneCellFields P #[f0,f1,f2]=true) (hC:P.cellsOf t=3){n:Nat}{cs:List Value}{x:DataW H×List MemPlace}
  (h:DataW.trod enc P w base sp held n t cs=ω x) :
  ∃v0 v1 v2 y0 y1 y2 n,cs = [v0,v1,v2]/\DataW.trod enc P w base sp held n f0.type [v0]=ω y0/\DataW.trod enc P w base sp held n f1.type [v1]=ω y1/\DataW.trod enc P w base sp held n f2.type [v2]=ω y2:=by
 obtain⟨y0,y1,y2,n,hx,hl,h0,h1,h2⟩:=trod_struct3 hs h;obtain⟨o0,k0⟩:=hone_of hone 0 f0 rfl;obtain⟨o1,k1⟩:=hone_of hone 1 f1 rfl;obtain⟨o2,k2⟩:=hone_of hone 2 f2 rfl;rw[hC]at hl
 match cs,hl with
 | [v0,v1,v2],_=>exact⟨v0,v1,v2,y0,y1,y2,n,rfl,by simpa[o0,k0]using h0,by simpa[o1,k1]using h1,by simpa[o2,k2]using h2⟩
end
end
section
open Go Go.RowKit
structure E7 (P:Program) (t e:TypeId) (size bytes:Nat) (z:Value):Prop where
 und:P.underlying t=ω (.slice e)
 info:∃i,P.info? e=ω i/\i.zero=ω z/\i.size=size/\i.bytes=bytes
 zs:z.cells.size=size
 pos:0<size
 bpos:0<bytes
section
variable {P:Program}{w:World}{t e:TypeId}{size bytes:Nat}{z:Value}(T:E7 P t e size bytes z)
include T
end
theorem y9 {w:World}{base:Nat}{e:TypeId}{size n:Nat}{v:Value}{xs:List Value}(h:w.ownsRow base e size v n xs):∃A c,v = ψ A n c/\∀a,A=ω a->base<=a.block/\a.block<w.heap.size:=by
 rcases h.2 with⟨rfl,rfl⟩ | ⟨g,cap,cur,rfl,hb,hg,_⟩
 .exact⟨ξ,0,rfl,λa h=>by cases h⟩
 .exact⟨_,_,rfl,λa h=>by
   injection h with h;subst h;exact⟨hb,(Array.getElem?_eq_some_iff.1 hg).1⟩⟩
theorem Sl.cells {α:Type}{r:Rd α}{F:Nat->Prop}{w:World}{A:Option Addr}{n c:Nat}{xs:List α}(h:Sl r F w A n c xs) (hn:0<n) (hr:0<r.size) :
  ∃(b o:Nat) (cells:List Value),A=ω ⟨b,o,ξ⟩/\b<w.heap.size/\F b/\cells.length=n*r.size/\(∀j u,cells[j]? = ω u->w.cell? ⟨b,o+j,ξ⟩=ω u)/\(∀u∈cells,u.oneCell' = true)/\
   ∀k x,xs[k]? = ω x->r.rel F w ((cells.drop (k*r.size)).take r.size) x:=by
 obtain⟨b,o,hA,hF,hb,hx⟩:=h.at_ hn;have key:∀(l:List α) (k0:Nat),(∀k x,l[k]? = ω x->xs[k0+k]? = ω x)->∃cells:List Value,cells.length=l.length*r.size/\(∀j u,cells[j]? = ω u->w.cell? ⟨b,o+(k0*r.size+j),ξ⟩=ω u)/\(∀u∈cells,u.oneCell' = true)/\
   ∀k x,l[k]? = ω x->r.rel F w ((cells.drop (k*r.size)).take r.size) x:=by
  intro l
  induction l with
  | nil=>exact λk0 _=>⟨[],by simp,by simp,by simp,by simp⟩
  | cons y l ih=>
   intro k0 hl;obtain⟨cells,h1,h2,h3,h4⟩:=ih (k0+1) λk x hk=>by
    have:=hl (k+1) x (by simpa using hk)
    rwa [show k0+(k+1)=k0+1+k by omega]at this
   obtain⟨cs,hc,hr'⟩:=hx k0 y (by have:=hl 0 y rfl;simpa using this);have hlen:=r.len hr';refine⟨cs ++ cells,by rw[List.length_append,h1,hlen,List.length_cons,Nat.succ_mul,Nat.add_comm],λj u hj=>?_,λu hu=>?_,λk x hk=>?_⟩
   .rw[List.getElem?_append]at hj
    split at hj
    .exact hc j u hj
    .rename_i hlt;have:=h2 _ u hj
     rwa [show o+((k0+1)*r.size+(j - cs.length))=o+(k0*r.size+j) by rw[hlen]at *;rw[Nat.succ_mul];omega]at this
   .rcases List.mem_append.1 hu with hu | hu
    .exact r.one hr' u hu
    .exact h3 u hu
   .cases k with
    | zero=>
     simp at hk;subst hk;rw[Nat.zero_mul,List.drop_zero,<-hlen,List.take_left];exact hr'
    | succ k=>
     have h5:=h4 k x (by simpa using hk);rw[show(k+1)*r.size=cs.length+k*r.size by rw[hlen,Nat.succ_mul,Nat.add_comm],<-List.drop_drop,List.drop_left];exact h5
 obtain⟨cells,h1,h2,h3,h4⟩:=key xs 0 (λk x hk=>by simpa using hk);exact⟨b,o,cells,hA,hb,hF,by rw[h1,h.len],λj u hj=>by simpa using h2 j u hj,h3,h4⟩
structure Bn {α:Type}(r:Rd α) (w:World) (base:Nat) (e:TypeId) (v:Value) (n:Nat) (ys:List Value) (F:Nat->Prop) (m:Nat) (xs:List α) (v':Value) (w':World) (cells:List Value):Prop where
 len:cells.length=m*r.size
 own:w'.ownsRow base e r.size v' (n+m) (ys ++ cells)
 gr:w.grownBy w' v.ownBlock
 at_:v'.ownBlock=v.ownBlock\/v'.ownBlock=ω w.heap.size
 one:∀u∈cells,u.oneCell' = true
 rel:∀k x,xs[k]? = ω x->r.rel F w ((cells.drop (k*r.size)).take r.size) x
section
variable {P:Program}{w:World}{t e:TypeId}{bytes:Nat}{z:Value}{α:Type}{r:Rd α}(T:E7 P t e r.size bytes z)
include T
end
end
section
open Go Go.RowKit
abbrev fQ:=Int×Int×Int
abbrev ly:=Int×Int×List Int
end
section
open Go Go.RowKit
structure oY {α:Type}(r:Rd α) (w:World) (base:Nat) (e:TypeId) (v:Value) (n:Nat) (xs:List α):Prop where
 len:xs.length=n
 own:∃ys,w.ownsRow base e r.size v n ys/\ys.length=n*r.size/\∀k x,xs[k]? = ω x->r.rel (λb=>base<=b/\ω b≠v.ownBlock) w ((ys.drop (k*r.size)).take r.size) x
section
variable {α:Type}{r:Rd α}{w w':World}{base:Nat}{e:TypeId}{v:Value}{n:Nat}{xs:List α}
theorem oY.shape (h:oY r w base e v n xs):∃A c,v = ψ A n c/\∀a,A=ω a->base<=a.block/\a.block<w.heap.size:=by
 obtain⟨_,ys,h,_⟩:=h;exact y9 h
theorem oY.keep (h:oY r w base e v n xs) (hk:∀b,base<=b->b<w.heap.size->w'.heap[b]? = w.heap[b]?):oY r w' base e v n xs:=by
 obtain⟨hl,ys,h1,h2,h3⟩:=h;refine⟨hl,ys,⟨h1.1,?_⟩,h2,λk x hx=>r.keep (λb hb hlt=>hk b hb.1 hlt) (h3 k x hx)⟩;rcases h1.2 with h0 | ⟨g,cap,cur,hv,hb,hg,r⟩
 .exact .inl h0
 .exact .inr ⟨g,cap,cur,hv,hb,(hk g hb (Array.getElem?_eq_some_iff.1 hg).1).trans hg,r⟩
theorem oY.ext (h:oY r w base e v n xs) (he:my w w'):oY r w' base e v n xs:=h.keep λb _ hb=>he.block b hb
theorem oY.lt (h:oY r w base e v n xs){g:Nat}(hg:v.ownBlock=ω g):base<=g/\g<w.heap.size:=by
 obtain⟨_,ys,h,_⟩:=h;exact h.lt g hg
theorem oY.setCell (h:oY r w base e v n xs){p:Addr}(hp:p.block<base) (u:Value):oY r (w.setCell p u) base e v n xs:=
 h.keep λb hb _=>Below.heap_setCell w p u b U
theorem oY.sl {A:Option Addr}{c:Nat}(h:oY r w base e (ψ A n c) n xs):Sl r (λb=>base<=b) w A n c xs:=by
 obtain⟨hl,ys,h1,_,h3⟩:=h;exact Sl.of_own h1 hl (λg h=>h) λk x hx=>r.mono (λb hb _=>hb.1) (h3 k x hx)
theorem oY.cell (h:oY r w base e v n xs) (hg:w.grownBy w' v.ownBlock){b o:Nat}{u:Value}(hb:b<base) (hc:w.cell? ⟨b,o,ξ⟩=ω u):w'.cell? ⟨b,o,ξ⟩=ω u:=
 hg.cell hc λe=>by have:=(h.lt e.symm).1;simp at this;omega
theorem oY.blk {g:Nat}{t:TypeId}{cs:Array Value}(h:oY r w base e v n xs) (hg:w.grownBy w' v.ownBlock) (hb:g<base) (hc:mT w g t cs):mT w' g t cs:=
 hc.grown hg λe=>by have:=(h.lt e.symm).1;omega
end
section
variable {P:Program}{w:World}{t e:TypeId}{bytes:Nat}{z:Value}{α:Type}{r:Rd α}(T:E7 P t e r.size bytes z)
include T
theorem oY.appended {base:Nat}{v:Value}{n m:Nat}{xs zs:List α}{ys:List Value}{F:Nat->Prop}{w':World}{v':Value}{cells:List Value}
  (hl:xs.length=n) (hz:zs.length=m) (hF:∀cs x,r.rel F w cs x->r.rel (λb=>base<=b/\ω b≠v.ownBlock) w cs x) (hy:ys.length=n*r.size)
  (hx:∀k x,xs[k]? = ω x->r.rel (λb=>base<=b/\ω b≠v.ownBlock) w ((ys.drop (k*r.size)).take r.size) x)
  (h:Bn r w base e v n ys F m zs v' w' cells):oY r w' base e v' (n+m) (xs ++ zs):=by
 have turn:∀{G:Nat->Prop}{cs:List Value}{x:α},(r.rel G w cs x->r.rel (λb=>base<=b/\ω b≠v.ownBlock) w cs x)->r.rel G w cs x->r.rel (λb=>base<=b/\ω b≠v'.ownBlock) w' cs x:=by
  intro G cs x hG hrel;have h1:r.rel (λb=>base<=b/\ω b≠v.ownBlock/\b<w.heap.size) w cs x:=r.mono (λb hb hlt=>⟨hb.1,hb.2,hlt⟩) (hG hrel);have h2:=r.keep (w':=w') (λb hb hlt=>h.gr.block b hlt hb.2.1) h1;refine r.mono (λb hb _=>⟨hb.1,λhe=>?_⟩) h2;rcases h.at_ with h3 | h3
  .exact hb.2.1 (he.trans h3)
  .rw[h3]at he;injection he with he;omega
 refine⟨by simp[hl,hz],ys ++ cells,h.own,by rw[List.length_append,hy,h.len,Nat.add_mul],λk x hk=>?_⟩;have hsz:∀j,j<n->j*r.size+r.size<=ys.length:=λj hj=>by
  rw[hy,<-Nat.succ_mul];exact Nat.mul_le_mul_right _ hj
 rw[List.getElem?_append]at hk
 split at hk
 .rename_i hlt;have h4:=hsz k U;rw[List.drop_append_of_le_length U,List.take_append_of_le_length (by simp;omega)];exact turn id (hx k x hk)
 .rename_i hge;have h5:k*r.size=ys.length+(k - n)*r.size:=by
   rw[hy,<-Nat.add_mul,Nat.add_sub_cancel' U]
  rw[h5,List.drop_append];have h6:List.drop (ys.length+(k - n)*r.size) ys = []:=List.drop_eq_nil_of_le U;rw[h6,List.nil_append,Nat.add_sub_cancel_left];exact turn (hF _ _) (h.rel (k - n) x (by rw[<-hl];exact hk))
end
section
variable {α:Type}{r:Rd α}{w w':World}{base:Nat}{e:TypeId}{v:Value}{n:Nat}{xs:List α}
theorem oY.frozen (h:oY r w base e v n xs) (hg:w.grownBy w' v.ownBlock){b o:Nat}(hb:b<base) (hs:base<=w.heap.size):w'.frozen? ⟨b,o,ξ⟩=w.frozen? ⟨b,o,ξ⟩:=
 hg.frozen_far ⟨b,o,ξ⟩ (by simp;omega) λe=>by have:=(h.lt e.symm).1;simp at this;omega
end
end
end Go.Proofs.YtmbadhdpcdbdbaaGreatDoor
