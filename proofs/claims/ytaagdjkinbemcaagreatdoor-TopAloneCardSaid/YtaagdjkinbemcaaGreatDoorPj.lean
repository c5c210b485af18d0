/-
Lemmas for TopAlone. No condition.
-/
import Derived.Test.YtaagdjkinbemcaaGreatDoorPc
import Derived.Lib.Hide
import Derived.Test.YtaagdjkinbemcaaGreatDoorPe
import Derived.Test.YtaagdjkinbemcaaGreatDoorPi
namespace Go.Proofs.YtaagdjkinbemcaaGreatDoor
open _root_.Go.IntKind renaming i64->ψ
open _root_.Go.Value renaming int->ξ,pointer->ν,slice->ω
open _root_.Option renaming none->η,some->Y
set_option linter.unusedVariables false
set_option linter.unusedSimpArgs false
set_option linter.unusedSectionVars false
set_option linter.unnecessarySimpa false
section
open Go Go.RowKit
namespace Eva
section
variable {h h' h'':AH}{b b' o:Nat}{ao:AO}{c:List Value}{e:TypeId}{f:Bool}{v:Value}
theorem get_new (h:AH) (ao:AO) (b:Nat):(h.new ao).get b=if b=h.next then Y ao else h.get b:=by
 show(h.t.set h.next (Y ao)).get b=_;by_cases e:b=h.next
 .subst e;rw[Tr.get_set,if_pos rfl]
 .rw[Tr.get_set_ne _ _ (λh=>e h.symm),if_neg e];rfl
theorem get_put (h:AH) (n:Nat) (ao:AO) (b:Nat):(h.put n ao).get b=if b=n then Y ao else h.get b:=by
 show(h.t.set n (Y ao)).get b=_;by_cases e:b=n
 .subst e;rw[Tr.get_set,if_pos rfl]
 .rw[Tr.get_set_ne _ _ (λh=>e h.symm),if_neg e];rfl
theorem get_del (h:AH) (n b:Nat):(h.del n).get b=if b=n then η else h.get b:=by
 show(h.t.set n η).get b=_;by_cases e:b=n
 .subst e;rw[Tr.get_set,if_pos rfl]
 .rw[Tr.get_set_ne _ _ (λh=>e h.symm),if_neg e];rfl
theorem gP (h:AH) (ao:AO):(h.new ao).next=h.next+1:=rfl
theorem jn (h:AH) (n:Nat):(h.del n).next=h.next:=rfl
abbrev Bk (h:AH) (b:Nat) (c:List Value) (e:TypeId):Prop:=h.get b=Y (.cells c e false)
theorem aa (hb:h.get b=Y (.cells c e f)) (ho:c[o]? = Y v):ldC h b o=Y v:=by
 unfold ldC a8;rw[hb];exact ho
theorem aJ (hb:h.get b=Y (.cells c e f)) (o:Nat):ldC h b o=c[o]?:=by
 unfold ldC a8;rw[hb]
theorem bj (hb:h'.get b=h.get b) (o:Nat):ldC h' b o=ldC h b o:=by
 unfold ldC a8;rw[hb]
theorem uX {l:List Value}{o n:Nat}(hl:o+n<=l.length):pI l o n=Y ((l.drop o).take n):=by
 unfold pI;have:((l.drop o).take n).length=n:=by simp;omega
 simp only[this,Nat.beq_refl,cond_true]
theorem bo (hb:h.get b=Y (.cells c e f)){n:Nat}(ho:o+n<=c.length):aB h b o n=Y ((c.drop o).take n):=by
 unfold aB a8;rw[hb];exact uX ho
theorem pj (hl:ldC h b o=Y v):∃c e f,h.get b=Y (.cells c e f)/\c[o]? = Y v:=by
 unfold ldC a8 at hl;cases hg:h.get b with
 | none=>rw[hg]at hl;cases hl
 | some ao=>
  rw[hg]at hl;cases ao with
  | cells c e f=>exact⟨c,e,f,rfl,hl⟩
  | map es k=>cases hl
  | iter s p=>cases hl
theorem nR {n:Nat}{l:List Value}(hl:l.length=n) (hn:0<n) (hc:∀j u,l[j]? = Y u->ldC h b (o+j)=Y u):aB h b o n=Y l:=by
 have h0:=hc 0 (l[0]' U) (List.getElem?_eq_getElem U);obtain⟨c,e,f,hg,-⟩:=pj h0;have key:∀j u,l[j]? = Y u->c[o+j]? = Y u:=λj u hj=>by have:=hc j u hj;rwa [aJ hg]at this
 have hlen:o+n<=c.length:=by
  have:=key (n - 1) (l[n - 1]' U) (List.getElem?_eq_getElem U);have:=(List.getElem?_eq_some_iff.1 this).1;omega
 rw[bo hg hlen]
 congr 1
 apply List.ext_getElem?;intro j;rw[List.getElem?_take,List.getElem?_drop];by_cases hj:j<n
 .rw[if_pos hj,key j l[j] (List.getElem?_eq_getElem U),List.getElem?_eq_getElem U]
 .rw[if_neg hj,List.getElem?_eq_none U]
theorem pB:∀(c:List Value) (o:Nat) (vs:List Value),o+vs.length<=c.length->iQ c o vs=Y (c.take o ++ vs ++ c.drop (o+vs.length))
 | c,o,[],_=>by cases c <;>simp[iQ]
 | [],o,v :: vs,hl=>by simp at hl
 | x :: c,0,v :: vs,hl=>by
  show(iQ c 0 vs).map (v :: ·)=_;rw[pB c 0 vs (by simp at hl;simp;omega)];simp
 | x :: c,o+1,v :: vs,hl=>by
  show(iQ c o (v :: vs)).map (x :: ·)=_;rw[pB c o (v :: vs) (by simp at hl;simp;omega)];rw[show o+1+(v :: vs).length=(o+(v :: vs).length)+1 by omega,List.drop_succ_cons];rfl
theorem DX {o:Nat}(ho:o<c.length):iQ c o [v]=Y (c.set o v):=by
 rw[pB c o [v] (by simp;omega)]
 congr 1
 rw[List.set_eq_take_append_cons_drop,if_pos ho];simp
theorem st1 (hb:Bk h b c e) (ho:o<c.length) (hf:flat v=true):j0 h b o [v]=Y (h.put b (.cells (c.set o v) e false)):=by
 unfold j0 bM;simp only;rw[hb];simp only;have:aV flat [v]=true:=by unfold aV;simp only[hf];rfl
 rw[this,DX ho];rfl
theorem qM {α:Type}{p:α->Bool}:∀{l:List α},(∀x∈l,p x=true)->aV p l=true
 | [],_=>rfl
 | x :: l,hl=>by
  show cond (p x) (aV p l) false=true;rw[hl x (by simp),qM λy hy=>hl y (List.mem_cons_of_mem _ hy)];rfl
theorem GW {vs:List Value}(hb:Bk h b c e) (ho:o+vs.length<=c.length) (hf:∀v∈vs,flat v=true):j0 h b o vs=Y (h.put b (.cells (c.take o ++ vs ++ c.drop (o+vs.length)) e false)):=by
 unfold j0 bM;simp only;rw[hb];simp only;rw[qM hf,pB c o vs ho];rfl
structure Nw (h h':AH):Prop where
 next:h.next<=h'.next
 get:∀b,b<h.next->h'.get b=h.get b
theorem Nw.refl (h:AH):Nw h h:=⟨Nat.le_refl _,λ_ _=>rfl⟩
theorem Nw.trans (a:Nw h h') (k:Nw h' h''):Nw h h'':=⟨Nat.le_trans a.next k.next,λb hb=>(k.get b (Nat.lt_of_lt_of_le hb a.next)).trans (a.get b hb)⟩
theorem Nw.new (h:AH) (ao:AO):Nw h (h.new ao):=⟨Nat.le_succ _,λb hb=>by rw[get_new,if_neg U]⟩
theorem Nw.put (a:Nw h h'){n:Nat}(hn:h.next<=n) (ao:AO):Nw h (h'.put n ao):=⟨a.next,λb hb=>by rw[get_put,if_neg U];exact a.get b hb⟩
theorem Nw.ldC (a:Nw h h') (hb:b<h.next) (o:Nat):ldC h' b o=Eva.ldC h b o:=bj (a.get b hb) o
theorem Nw.bk (a:Nw h h') (hb:b<h.next) (hk:Bk h b c e):Bk h' b c e:=(a.get b hb).trans hk
theorem aj (e1:h' = h.new ao):Nw h h'/\h'.get h.next=Y ao/\h'.next=h.next+1:=by
 subst e1;exact⟨Nw.new h ao,by rw[get_new,if_pos rfl],rfl⟩
structure Mt (S:Nat->Prop) (h h':AH):Prop where
 next:h.next<=h'.next
 get:∀b,b<h.next->¬S b->h'.get b=h.get b
section
variable {S S':Nat->Prop}
theorem Mt.refl (S:Nat->Prop) (h:AH):Mt S h h:=⟨Nat.le_refl _,λ_ _ _=>rfl⟩
theorem Mt.of (a:Nw h h'):Mt S h h':=⟨a.next,λb hb _=>a.get b hb⟩
theorem Mt.trans (a:Mt S h h') (k:Mt S' h' h'') (hS:∀b,S' b->b<h.next->S b):Mt S h h'':=⟨Nat.le_trans a.next k.next,λb hb hn=>(k.get b (Nat.lt_of_lt_of_le hb a.next) (λhs=>hn (hS b hs hb))).trans (a.get b hb hn)⟩
theorem Mt.then (a:Mt S h h') (k:Mt S h' h''):Mt S h h'':=a.trans k λ_ h _=>h
theorem Mt.nw (a:Mt S h h') (k:Nw h' h''):Mt S h h'':=a.then (.of k)
theorem Mt.mono (a:Mt S h h') (hS:∀b,S b->b<h.next->S' b):Mt S' h h':=⟨a.next,λb hb hn=>a.get b hb (λhs=>hn (hS b hs hb))⟩
theorem Mt.is_nw {h0:AH}(a:Mt S h h') (k:Nw h0 h) (hS:∀b,S b->h0.next<=b):Nw h0 h':=⟨Nat.le_trans k.next a.next,λb hb=>(a.get b (Nat.lt_of_lt_of_le hb k.next) (λhs=>by have:=hS b hs;omega)).trans (k.get b hb)⟩
theorem Mt.bk (a:Mt S h h') (hb:b<h.next) (hs:¬S b) (hk:Bk h b c e):Bk h' b c e:=(a.get b hb hs).trans hk
end
end
structure Rc (α:Type) where
 size:Nat
 rel:(Nat->Prop)->AH->List Value->α->Prop
 len:∀{F h cs x},rel F h cs x->cs.length=size
 flat:∀{F h cs x},rel F h cs x->∀u∈cs,flat u=true
 keep:∀{F h h' cs x},(∀b,F b->b<h.next->h'.get b=h.get b)->h.next<=h'.next->rel F h cs x->rel F h' cs x
 mono:∀{F G h cs x},(∀b,F b->b<h.next->G b)->rel F h cs x->rel G h cs x
structure Sz {α:Type}(r:Rc α) (F:Nat->Prop) (h:AH) (A:Option Addr) (n K:Nat) (xs:List α):Prop where
 len:xs.length=n
 at_:0<n->∃b o,A=Y ⟨b,o,η⟩/\F b/\b<h.next/\∀k x,xs[k]? = Y x->∃cs,(∀j u,cs[j]? = Y u->ldC h b (o+(k*r.size+j))=Y u)/\r.rel F h cs x
structure Sa {α:Type}(r:Rc α) (F:Nat->Prop) (h:AH) (A:Option Addr) (n K:Nat) (xs:List α):Prop where
 len:xs.length=n
 shape:(A=η/\n=0/\K=0)\/∃b o,A=Y ⟨b,o,η⟩
 at_:0<n->∃b o,A=Y ⟨b,o,η⟩/\F b/\b<h.next/\∀k x,xs[k]? = Y x->∃cs,(∀j u,cs[j]? = Y u->ldC h b (o+(k*r.size+j))=Y u)/\r.rel F h cs x
section
variable {α:Type}{r:Rc α}{F G S:Nat->Prop}{h h':AH}{A:Option Addr}{n K:Nat}{xs:List α}
theorem Sa.keep (hs:Sa r F h A n K xs) (hk:∀b,F b->b<h.next->h'.get b=h.get b) (hn:h.next<=h'.next):Sa r F h' A n K xs:=by
 refine⟨hs.len,hs.shape,λh0=>?_⟩;obtain⟨b,o,hA,hF,hb,hx⟩:=hs.at_ h0;refine⟨b,o,hA,hF,Nat.lt_of_lt_of_le hb hn,λk x hkx=>?_⟩;obtain⟨cs,hc,hr⟩:=hx k x hkx;exact⟨cs,λj u hu=>(bj (hk b hF hb) _).trans (hc j u hu),r.keep hk hn hr⟩
theorem Sa.nw (hs:Sa r F h A n K xs) (a:Nw h h'):Sa r F h' A n K xs:=hs.keep (λb _ hb=>a.get b hb) a.next
theorem Sa.off (hs:Sa r F h A n K xs) (a:Mt S h h') (hS:∀b,F b->¬S b):Sa r F h' A n K xs:=hs.keep (λb hF hb=>a.get b hb (hS b hF)) a.next
theorem Sa.mono (hs:Sa r F h A n K xs) (hFG:∀b,F b->b<h.next->G b):Sa r G h A n K xs:=by
 refine⟨hs.len,hs.shape,λh0=>?_⟩;obtain⟨b,o,hA,hF,hb,hx⟩:=hs.at_ h0;refine⟨b,o,hA,hFG b hF hb,hb,λk x hkx=>?_⟩;obtain⟨cs,hc,hr⟩:=hx k x hkx;exact⟨cs,hc,r.mono hFG hr⟩
theorem Sa.nil0 (hs:Sa r F h A n K xs) (hA:A=η):n=0/\K=0:=by
 rcases hs.shape with⟨_,h1,h2⟩ | ⟨b,o,h1⟩
 .exact⟨h1,h2⟩
 .rw[hA]at h1;cases h1
theorem Sa.some_ (hs:Sa r F h A n K xs) (hA:A≠η):∃b o,A=Y ⟨b,o,η⟩:=by
 rcases hs.shape with⟨h1,_,_⟩ | h1
 .exact absurd h1 hA
 .exact h1
theorem Sa.eqok (hs:Sa r F h A n K xs):bO (ω A n K):=by
 rcases hs.shape with⟨rfl,_,_⟩ | ⟨b,o,rfl⟩
 .trivial
 .rfl
theorem Sa.z (hs:Sa r F h A n K xs):Sz r F h A n K xs:=⟨hs.len,hs.at_⟩
theorem Sz.keep (hs:Sz r F h A n K xs) (hk:∀b,F b->b<h.next->h'.get b=h.get b) (hn:h.next<=h'.next):Sz r F h' A n K xs:=by
 refine⟨hs.len,λh0=>?_⟩;obtain⟨b,o,hA,hF,hb,hx⟩:=hs.at_ h0;refine⟨b,o,hA,hF,Nat.lt_of_lt_of_le hb hn,λk x hkx=>?_⟩;obtain⟨cs,hc,hr⟩:=hx k x hkx;exact⟨cs,λj u hu=>(bj (hk b hF hb) _).trans (hc j u hu),r.keep hk hn hr⟩
theorem Sz.nw (hs:Sz r F h A n K xs) (a:Nw h h'):Sz r F h' A n K xs:=hs.keep (λb _ hb=>a.get b hb) a.next
theorem Sz.off (hs:Sz r F h A n K xs) (a:Mt S h h') (hS:∀b,F b->¬S b):Sz r F h' A n K xs:=hs.keep (λb hF hb=>a.get b hb (hS b hF)) a.next
theorem Sz.mono (hs:Sz r F h A n K xs) (hFG:∀b,F b->b<h.next->G b):Sz r G h A n K xs:=by
 refine⟨hs.len,λh0=>?_⟩;obtain⟨b,o,hA,hF,hb,hx⟩:=hs.at_ h0;refine⟨b,o,hA,hFG b hF hb,hb,λk x hkx=>?_⟩;obtain⟨cs,hc,hr⟩:=hx k x hkx;exact⟨cs,hc,r.mono hFG hr⟩
theorem Sz.get (hs:Sz r F h A n K xs){k:Nat}(hk:k<n):∃b o x cs,A=Y ⟨b,o,η⟩/\F b/\b<h.next/\xs[k]? = Y x/\(∀j u,cs[j]? = Y u->ldC h b (o+(k*r.size+j))=Y u)/\r.rel F h cs x:=by
 obtain⟨b,o,hA,hF,hb,hx⟩:=hs.at_ U;have hl:k<xs.length:=by rw[hs.len];exact hk
 obtain⟨cs,hc,hr⟩:=hx k xs[k] (List.getElem?_eq_getElem hl);exact⟨b,o,xs[k],cs,hA,hF,hb,List.getElem?_eq_getElem hl,hc,hr⟩
theorem Sa.get (hs:Sa r F h A n K xs){k:Nat}(hk:k<n):∃b o x cs,A=Y ⟨b,o,η⟩/\F b/\b<h.next/\xs[k]? = Y x/\(∀j u,cs[j]? = Y u->ldC h b (o+(k*r.size+j))=Y u)/\r.rel F h cs x:=by
 obtain⟨b,o,hA,hF,hb,hx⟩:=hs.at_ U;have hl:k<xs.length:=by rw[hs.len];exact hk
 obtain⟨cs,hc,hr⟩:=hx k xs[k] (List.getElem?_eq_getElem hl);exact⟨b,o,xs[k],cs,hA,hF,hb,List.getElem?_eq_getElem hl,hc,hr⟩
end
def Rc.int (k:IntKind):Rc Int where
 size:=1
 rel:=λ_ _ cs x=>cs = [.int k x]
 len:=λh=>by rw[h];rfl
 flat:=λh u hu=>by rw[h]at hu;simp at hu;subst hu;rfl
 keep:=λ_ _ h=>h
 mono:=λ_ h=>h
def Rc.slice {α:Type}(r:Rc α):Rc (List α) where
 size:=1
 rel:=λF h cs xs=>∃A n K,cs = [ω A n K]/\Sa r F h A n K xs
 len:=λ⟨_,_,_,h,_⟩=>by rw[h];rfl
 flat:=λ⟨_,_,_,h,_⟩ u hu=>by rw[h]at hu;simp at hu;subst hu;rfl
 keep:=λhk hn ⟨A,n,K,h,hs⟩=>⟨A,n,K,h,hs.keep hk hn⟩
 mono:=λhFG ⟨A,n,K,h,hs⟩=>⟨A,n,K,h,hs.mono hFG⟩
def Rc.sliceZ {α:Type}(r:Rc α):Rc (List α) where
 size:=1
 rel:=λF h cs xs=>∃A n K,cs = [ω A n K]/\Sz r F h A n K xs
 len:=λ⟨_,_,_,h,_⟩=>by rw[h];rfl
 flat:=λ⟨_,_,_,h,_⟩ u hu=>by rw[h]at hu;simp at hu;subst hu;rfl
 keep:=λhk hn ⟨A,n,K,h,hs⟩=>⟨A,n,K,h,hs.keep hk hn⟩
 mono:=λhFG ⟨A,n,K,h,hs⟩=>⟨A,n,K,h,hs.mono hFG⟩
def Rc.tableZ:Rc (Int×Int×List Int) where
 size:=3
 rel:=λF h cs x=>∃A n K,cs = [ξ ψ x.1,ξ ψ x.2.1,ω A n K]/\Sz (Rc.int .i64) F h A n K x.2.2
 len:=λ⟨_,_,_,h,_⟩=>by rw[h];rfl
 flat:=λ⟨_,_,_,h,_⟩ u hu=>by rw[h]at hu;simp at hu;rcases hu with rfl | rfl | rfl <;>rfl
 keep:=λhk hn ⟨A,n,K,h,hs⟩=>⟨A,n,K,h,hs.keep hk hn⟩
 mono:=λhFG ⟨A,n,K,h,hs⟩=>⟨A,n,K,h,hs.mono hFG⟩
def Rc.pair (k k':IntKind):Rc (Int×Int) where
 size:=2
 rel:=λ_ _ cs x=>cs = [.int k x.1,.int k' x.2]
 len:=λh=>by rw[h];rfl
 flat:=λh u hu=>by rw[h]at hu;simp at hu;rcases hu with rfl | rfl <;>rfl
 keep:=λ_ _ h=>h
 mono:=λ_ h=>h
def Rc.tri (k k' k'':IntKind):Rc (Int×Int×Int) where
 size:=3
 rel:=λ_ _ cs x=>cs = [.int k x.1,.int k' x.2.1,.int k'' x.2.2]
 len:=λh=>by rw[h];rfl
 flat:=λh u hu=>by rw[h]at hu;simp at hu;rcases hu with rfl | rfl | rfl <;>rfl
 keep:=λ_ _ h=>h
 mono:=λ_ h=>h
def Rc.table:Rc (Int×Int×List Int) where
 size:=3
 rel:=λF h cs x=>∃A n K,cs = [ξ ψ x.1,ξ ψ x.2.1,ω A n K]/\Sa (Rc.int .i64) F h A n K x.2.2
 len:=λ⟨_,_,_,h,_⟩=>by rw[h];rfl
 flat:=λ⟨_,_,_,h,_⟩ u hu=>by rw[h]at hu;simp at hu;rcases hu with rfl | rfl | rfl <;>rfl
 keep:=λhk hn ⟨A,n,K,h,hs⟩=>⟨A,n,K,h,hs.keep hk hn⟩
 mono:=λhFG ⟨A,n,K,h,hs⟩=>⟨A,n,K,h,hs.mono hFG⟩
def Rc.gate:Rc (List Int×List Int) where
 size:=2
 rel:=λF h cs x=>∃A n K B m L,cs = [ω A n K,.slice B m L]/\Sa (Rc.int .i64) F h A n K x.1/\Sa (Rc.int .i64) F h B m L x.2
 len:=λ⟨_,_,_,_,_,_,h,_,_⟩=>by rw[h];rfl
 flat:=λ⟨_,_,_,_,_,_,h,_,_⟩ u hu=>by rw[h]at hu;simp at hu;rcases hu with rfl | rfl <;>rfl
 keep:=λhk hn ⟨A,n,K,B,m,L,h,h1,h2⟩=>⟨A,n,K,B,m,L,h,h1.keep hk hn,h2.keep hk hn⟩
 mono:=λhFG ⟨A,n,K,B,m,L,h,h1,h2⟩=>⟨A,n,K,B,m,L,h,h1.mono hFG,h2.mono hFG⟩
abbrev cI:Rc Int:=Rc.int .i64
abbrev aM:Rc (List Int):=Rc.slice cI
section
variable {F:Nat->Prop}{h:AH}{A:Option Addr}{n K:Nat}
theorem Sa.int {xs:List Int}(hs:Sa cI F h A n K xs){k:Nat}(hk:k<n):∃b o x,A=Y ⟨b,o,η⟩/\F b/\b<h.next/\xs[k]? = Y x/\ldC h b (o+k)=Y (ξ ψ x):=by
 obtain⟨b,o,x,cs,hA,hF,hb,hx,hc,hr⟩:=hs.get hk;refine⟨b,o,x,hA,hF,hb,hx,?_⟩;have hr':cs = [ξ ψ x]:=hr;have:=hc 0 (ξ ψ x) (by rw[hr'];rfl);simpa[Rc.int]using this
theorem Sa.row {α:Type}{r:Rc α}{xs:List (List α)}(hs:Sa (Rc.slice r) F h A n K xs){k:Nat}(hk:k<n):∃b o A' n' K' x,A=Y ⟨b,o,η⟩/\F b/\b<h.next/\xs[k]? = Y x/\ldC h b (o+k)=Y (ω A' n' K')/\Sa r F h A' n' K' x:=by
 obtain⟨b,o,x,cs,hA,hF,hb,hx,hc,A',n',K',hcs,hs'⟩:=hs.get hk;refine⟨b,o,A',n',K',x,hA,hF,hb,hx,?_,hs'⟩;have:=hc 0 (ω A' n' K') (by rw[hcs];rfl);simpa[Rc.slice]using this
theorem Sa.pair {xs:List (Int×Int)}(hs:Sa (Rc.pair .i64 .i64) F h A n K xs){k:Nat}(hk:k<n):∃b o x y,A=Y ⟨b,o,η⟩/\F b/\b<h.next/\xs[k]? = Y (x,y)/\ldC h b (o+k*2)=Y (ξ ψ x)/\ldC h b (o+k*2+1)=Y (ξ ψ y):=by
 obtain⟨b,o,x,cs,hA,hF,hb,hx,hc,hr⟩:=hs.get hk;have hr':cs = [ξ ψ x.1,ξ ψ x.2]:=hr;have h0:=hc 0 (ξ ψ x.1) (by rw[hr'];rfl);have h1:=hc 1 (ξ ψ x.2) (by rw[hr'];rfl);exact⟨b,o,x.1,x.2,hA,hF,hb,hx,by simpa[Rc.pair]using h0,by simpa[Rc.pair,Nat.add_assoc]using h1⟩
theorem Sa.tri {xs:List (Int×Int×Int)}(hs:Sa (Rc.tri .i64 .i64 .i64) F h A n K xs){k:Nat}(hk:k<n):∃b o x y z,A=Y ⟨b,o,η⟩/\F b/\b<h.next/\xs[k]? = Y (x,y,z)/\ldC h b (o+k*3)=Y (ξ ψ x)/\ldC h b (o+k*3+1)=Y (ξ ψ y)/\ldC h b (o+k*3+2)=Y (ξ ψ z):=by
 obtain⟨b,o,x,cs,hA,hF,hb,hx,hc,hr⟩:=hs.get hk;have hr':cs = [ξ ψ x.1,ξ ψ x.2.1,ξ ψ x.2.2]:=hr;have h0:=hc 0 (ξ ψ x.1) (by rw[hr'];rfl);have h1:=hc 1 (ξ ψ x.2.1) (by rw[hr'];rfl);have h2:=hc 2 (ξ ψ x.2.2) (by rw[hr'];rfl);exact⟨b,o,x.1,x.2.1,x.2.2,hA,hF,hb,hx,by simpa[Rc.tri]using h0,by simpa[Rc.tri,Nat.add_assoc]using h1,by simpa[Rc.tri,Nat.add_assoc]using h2⟩
theorem Sa.table {xs:List (Int×Int×List Int)}(hs:Sa Rc.table F h A n K xs){k:Nat}(hk:k<n):∃b o x y A' n' K' zs,A=Y ⟨b,o,η⟩/\F b/\b<h.next/\xs[k]? = Y (x,y,zs)/\ldC h b (o+k*3)=Y (ξ ψ x)/\ldC h b (o+k*3+1)=Y (ξ ψ y)/\ldC h b (o+k*3+2)=Y (ω A' n' K')/\Sa cI F h A' n' K' zs:=by
 obtain⟨b,o,x,cs,hA,hF,hb,hx,hc,A',n',K',hr',hs'⟩:=hs.get hk;have h0:=hc 0 (ξ ψ x.1) (by rw[hr'];rfl);have h1:=hc 1 (ξ ψ x.2.1) (by rw[hr'];rfl);have h2:=hc 2 (ω A' n' K') (by rw[hr'];rfl);exact⟨b,o,x.1,x.2.1,A',n',K',x.2.2,hA,hF,hb,hx,by simpa[Rc.table]using h0,by simpa[Rc.table,Nat.add_assoc]using h1,by simpa[Rc.table,Nat.add_assoc]using h2,hs'⟩
theorem Sa.gate {xs:List (List Int×List Int)}(hs:Sa Rc.gate F h A n K xs){k:Nat}(hk:k<n):∃b o A1 n1 K1 A2 n2 K2 x y,A=Y ⟨b,o,η⟩/\F b/\b<h.next/\xs[k]? = Y (x,y)/\ldC h b (o+k*2)=Y (ω A1 n1 K1)/\ldC h b (o+k*2+1)=Y (ω A2 n2 K2)/\Sa cI F h A1 n1 K1 x/\Sa cI F h A2 n2 K2 y:=by
 obtain⟨b,o,x,cs,hA,hF,hb,hx,hc,A1,n1,K1,A2,n2,K2,hr',s1,s2⟩:=hs.get hk;have h0:=hc 0 (ω A1 n1 K1) (by rw[hr'];rfl);have h1:=hc 1 (ω A2 n2 K2) (by rw[hr'];rfl);exact⟨b,o,A1,n1,K1,A2,n2,K2,x.1,x.2,hA,hF,hb,hx,by simpa[Rc.gate]using h0,by simpa[Rc.gate,Nat.add_assoc]using h1,s1,s2⟩
theorem Sz.cells {α:Type}{r:Rc α}{xs:List α}(hs:Sz r F h A n K xs) (hn:0<n):∃(b o:Nat) (cells:List Value),A=Y ⟨b,o,η⟩/\F b/\b<h.next/\cells.length=n*r.size/\(∀j u,cells[j]? = Y u->ldC h b (o+j)=Y u)/\(∀u∈cells,flat u=true)/\
  ∀k x,xs[k]? = Y x->r.rel F h ((cells.drop (k*r.size)).take r.size) x:=by
 obtain⟨b,o,hA,hF,hb,hx⟩:=hs.at_ hn;have key:∀(l:List α) (k0:Nat),(∀k x,l[k]? = Y x->xs[k0+k]? = Y x)->∃cells:List Value,cells.length=l.length*r.size/\(∀j u,cells[j]? = Y u->ldC h b (o+(k0*r.size+j))=Y u)/\(∀u∈cells,flat u=true)/\
   ∀k x,l[k]? = Y x->r.rel F h ((cells.drop (k*r.size)).take r.size) x:=by
  intro l
  induction l with
  | nil=>exact λk0 _=>⟨[],by simp,by simp,by simp,by simp⟩
  | cons y l ih=>
   intro k0 hl;obtain⟨cells,h1,h2,h3,h4⟩:=ih (k0+1) λk x hk=>by
    have:=hl (k+1) x (by simpa using hk)
    rwa [show k0+(k+1)=k0+1+k by omega]at this
   obtain⟨cs,hc,hr'⟩:=hx k0 y (by have:=hl 0 y rfl;simpa using this);have hlen:=r.len hr';refine⟨cs ++ cells,by rw[List.length_append,h1,hlen,List.length_cons,Nat.succ_mul,Nat.add_comm],λj u hj=>?_,λu hu=>?_,λk x hk=>?_⟩
   .rw[List.getElem?_append]at hj
    split at hj
    .exact hc j u hj
    .rename_i hlt;have:=h2 _ u hj
     rwa [show o+((k0+1)*r.size+(j - cs.length))=o+(k0*r.size+j) by rw[hlen]at *;rw[Nat.succ_mul];omega]at this
   .rcases List.mem_append.1 hu with hu | hu
    .exact r.flat hr' u hu
    .exact h3 u hu
   .cases k with
    | zero=>
     simp at hk;subst hk;rw[Nat.zero_mul,List.drop_zero,<-hlen,List.take_left];exact hr'
    | succ k=>
     have h5:=h4 k x (by simpa using hk);rw[show(k+1)*r.size=cs.length+k*r.size by rw[hlen,Nat.succ_mul,Nat.add_comm],<-List.drop_drop,List.drop_left];exact h5
 obtain⟨cells,h1,h2,h3,h4⟩:=key xs 0 (λk x hk=>by simpa using hk);exact⟨b,o,cells,hA,hF,hb,by rw[h1,hs.len],λj u hj=>by simpa using h2 j u hj,h3,h4⟩
theorem Sa.of_bk {α:Type}{r:Rc α}{xs:List α}{g:Nat}{e:TypeId}{f:Bool}{c:List Value}(hb:h.get g=Y (.cells c e f)) (hl:xs.length=n) (hF:F g) (hg:g<h.next) (hx:∀k x,xs[k]? = Y x->r.rel F h ((c.drop (k*r.size)).take r.size) x):Sa r F h (Y ⟨g,0,η⟩) n K xs:=by
 refine⟨hl,.inr ⟨_,_,rfl⟩,λ_=>⟨g,0,rfl,hF,hg,λk x hk=>⟨_,λj u hu=>?_,hx k x hk⟩⟩⟩;rw[aJ hb];rw[List.getElem?_take]at hu
 split at hu
 .rwa [List.getElem?_drop,<-Nat.zero_add (k*r.size+j)]at hu
 .cases hu
theorem du {α:Type}{l:List α}{k:Nat}{a:α}(h:l[k]? = Y a):(l.drop k).take 1 = [a]:=by
 have hk:k<l.length:=(List.getElem?_eq_some_iff.1 h).1;rw[List.drop_eq_getElem_cons hk];simp[(List.getElem?_eq_some_iff.1 h).2]
theorem Sa.of_ints {xs:List Int}{g:Nat}{e:TypeId}{f:Bool}{k:IntKind}(hb:h.get g=Y (.cells (xs.map (Value.int k)) e f)) (hl:xs.length=n) (hF:F g) (hg:g<h.next):Sa (Rc.int k) F h (Y ⟨g,0,η⟩) n K xs:=
 Sa.of_bk hb hl hF hg λi x hx=>by
  show(((xs.map (Value.int k)).drop (i*1)).take 1)=_;rw[Nat.mul_one];exact du (by simp[hx])
end
def tf (P:Program) (e:TypeId) (size bytes:Nat):Bool:=
 match P.info? e with
 | some i=>Nat.beq i.size size && Nat.beq i.bytes bytes && !(Nat.beq i.size 0) && Nat.blt i.bytes 1000000 && gz i
 | none=>false
theorem aQ (z:Value) (n:Nat):dD n [z]=List.replicate n z:=by
 induction n with
 | zero=>rfl
 | succ n ih=>
  show [z] ++ dD n [z]=_;rw[ih];rfl
section
variable {P:Program}{h h':AH}{e:TypeId}{size bytes n m K L:Nat}{A B:Option Addr}{cells old:List Value}
theorem kc (hl:cells.length=m*size) (hc:0<m->∃b o,B=Y ⟨b,o,η⟩/\∀j u,cells[j]? = Y u->ldC h b (o+j)=Y u):fM h size m (.slice B m L)=Y cells:=by
 unfold fM;rcases Nat.eq_zero_or_pos m with h0 | h0
 .subst h0;have:cells = []:=List.eq_nil_of_length_eq_zero (by simpa using hl);subst this;cases B with
  | none=>rfl
  | some a=>simp
 .obtain⟨b,o,rfl,hc'⟩:=hc h0;simp only;rcases Nat.eq_zero_or_pos (m*size) with h1 | h1
  .have:cells = []:=List.eq_nil_of_length_eq_zero U;subst this;rw[h1];rfl
  .have hb:Nat.beq (m*size) 0=false:=by
    cases hb:Nat.beq (m*size) 0 with
    | false=>rfl
    | true=>have:=aq hb;omega
   rw[hb];simp only[cond_false];have:=nR (h:=h) (b:=b) (o:=o) hl h1 hc';unfold aB at this;unfold jW;cases hca:a8 h b with
   | none=>rw[hca]at this;cases this
   | some t=>rw[hca]at this;exact this
theorem bg (hT:tf P e size bytes=true):∃i,P.info? e=Y i/\i.size=size/\i.bytes=bytes/\0<size/\bytes<1000000/\Nat.beq i.size 0=false/\Nat.blt i.bytes 1000000=true/\gz i=true:=by
 unfold tf at hT;cases hi:P.info? e with
 | none=>rw[hi]at hT;cases hT
 | some i=>
  rw[hi]at hT;simp only[Bool.and_eq_true,Bool.not_eq_true']at hT;obtain⟨⟨⟨⟨h1,h2⟩,h3⟩,h4⟩,h5⟩:=hT;have e1:=aq h1;have e2:=aq h2;refine⟨i,rfl,e1,e2,?_,?_,h3,h4,h5⟩
  .rcases Nat.eq_zero_or_pos size with h0 | h0
   .rw[e1,h0]at h3;cases h3
   .exact h0
  .rw[<-e2];exact Nat.le_of_ble_eq_true h4
theorem zZ {i:TypeInfo}(h1:i.size=size) (h2:i.bytes=bytes) (h6:Nat.beq i.size 0=false) (h7:Nat.blt i.bytes 1000000=true) (h8:gz i=true) (hl:cells.length=m*size) (hf:∀u∈cells,flat u=true) (hb:(n+m)*bytes<70000000000000) (hn:n+m<70000000000000) :
  AV h e i A n K m cells=cond (Nat.ble (n+m) (K / 2)) (ly h i.size A n K m cells) (fZ h e i.size A n K m cells):=by
 unfold AV;have b1:Nat.blt ((n+m)*i.bytes) 70000000000000=true:=by rw[h2];exact Nat.ble_eq_true_of_le hb
 have b2:Nat.blt (n+m) 70000000000000=true:=Nat.ble_eq_true_of_le hn;have b3:Nat.beq cells.length (m*i.size)=true:=by rw[h1,hl];exact Nat.beq_refl _
 rw[qM hf,b1,b2,b3,h6,h7,h8];rfl
theorem fX (hT:tf P e size bytes=true) (hl:cells.length=m*size) (hf:∀u∈cells,flat u=true) (hc:0<m->∃b o,B=Y ⟨b,o,η⟩/\∀j u,cells[j]? = Y u->ldC h b (o+j)=Y u) (hb:(n+m)*bytes<70000000000000) (hn:n+m<70000000000000) :
  ah P h (Y (.slice e)) (Y (.slice e)) (ω A n K) (.slice B m L)=cond (Nat.ble (n+m) (K / 2)) (ly h size A n K m cells) (fZ h e size A n K m cells):=by
 obtain⟨i,hi,h1,h2,h3,h4,h6,h7,h8⟩:=bg hT;have hx:=kc (L:=L) hl hc;unfold ah;simp only[hi];have hsrc:pN h i.size (.slice B m L)=Y (m,cells):=by
  unfold pN;show(match fM h i.size m (.slice B m L) with | some l=>Y (m,l) | none=>η)=_;rw[h1,hx]
 show pt i e h (ω A n K) (pN h i.size (.slice B m L))=_;rw[hsrc];show AV h e i A n K m cells=_;rw[zZ h1 h2 h6 h7 h8 hl hf hb hn,h1]
end
def ai:Option Addr->Nat->Prop
 | some a,b=>b=a.block
 | none,_=>False
end Eva
end
section
open Go Go.RowKit
namespace Eva
def ay {α:Type}(r:Rc α) (h:AH) (D:Nat->Prop) (e:TypeId) (A:Option Addr) (n K:Nat) (xs:List α):Prop:=
 xs.length=n/\((A=η/\n=0/\K=0)\/∃g cells,A=Y ⟨g,0,η⟩/\D g/\g<h.next/\h.get g=Y (.cells cells e false)/\cells.length=n*r.size/\(K=cl n\/K=2*n)/\(∀u∈cells,flat u=true)/\
  ∀k x,xs[k]? = Y x->r.rel (λb=>D b/\b≠g) h ((cells.drop (k*r.size)).take r.size) x)
section
variable {α:Type}{r:Rc α}{h h':AH}{D:Nat->Prop}{e:TypeId}{A:Option Addr}{n K:Nat}{xs:List α}
theorem ay.nil (r:Rc α) (h:AH) (D:Nat->Prop) (e:TypeId):ay r h D e η 0 0 []:=⟨rfl,.inl ⟨rfl,rfl,rfl⟩⟩
theorem ay.len (o:ay r h D e A n K xs):xs.length=n:=o.1
theorem ay.lt (o:ay r h D e A n K xs){b:Nat}(hb:ai A b):D b/\b<h.next:=by
 rcases o.2 with⟨rfl,_,_⟩ | ⟨g,cells,rfl,h1,h2,_⟩
 .exact hb.elim
 .have:b=g:=hb;subst this;exact⟨h1,h2⟩
theorem ay.keep (o:ay r h D e A n K xs) (hk:∀b,D b->b<h.next->h'.get b=h.get b) (hn:h.next<=h'.next):ay r h' D e A n K xs:=by
 obtain⟨hl,o⟩:=o;refine⟨hl,?_⟩;rcases o with o | ⟨g,cells,rfl,h1,h2,h3,h4,h5,h6,h7⟩
 .exact .inl o
 .exact .inr ⟨g,cells,rfl,h1,Nat.lt_of_lt_of_le h2 hn,(hk g h1 h2).trans h3,h4,h5,h6,λk x hx=>r.keep (λb hb hlt=>hk b hb.1 hlt) hn (h7 k x hx)⟩
theorem ay.nw (o:ay r h D e A n K xs) (a:Nw h h'):ay r h' D e A n K xs:=o.keep (λb _ hb=>a.get b hb) a.next
theorem ay.off (o:ay r h D e A n K xs){S:Nat->Prop}(a:Mt S h h') (hS:∀b,D b->b<h.next->¬S b):ay r h' D e A n K xs:=o.keep (λb h1 hb=>a.get b hb (hS b h1 hb)) a.next
theorem ay.sa (o:ay r h D e A n K xs):Sa r D h A n K xs:=by
 obtain⟨hl,o⟩:=o;rcases o with⟨rfl,rfl,rfl⟩ | ⟨g,cells,rfl,h1,h2,h3,h4,h5,h6,h7⟩
 .exact⟨hl,.inl ⟨rfl,rfl,rfl⟩,λh=>absurd h U⟩
 .exact Sa.of_bk h3 hl h1 h2 λk x hx=>r.mono (λb hb _=>hb.1) (h7 k x hx)
theorem ay.spot (o:ay r h D e A n K xs):bO (ω A n K):=by
 rcases o.2 with⟨rfl,_,_⟩ | ⟨g,cells,rfl,_⟩
 .trivial
 .rfl
theorem ay.lit {g:Nat}{cells:List Value}(hg:h.get g=Y (.cells cells e false)) (h1:D g) (h2:g<h.next) (hl:xs.length=n) (h4:cells.length=n*r.size) (hf:∀u∈cells,flat u=true) (hx:∀k x,xs[k]? = Y x->r.rel (λb=>D b/\b≠g) h ((cells.drop (k*r.size)).take r.size) x):ay r h D e (Y ⟨g,0,η⟩) n (2*n) xs:=
 ⟨hl,.inr ⟨g,cells,rfl,h1,h2,hg,h4,.inr rfl,hf,hx⟩⟩
variable {P:Program}{bytes:Nat}
theorem yP (hT:tf P e r.size bytes=true) (o:ay r h D e A n K xs){F:Nat->Prop}{B:Option Addr}{m L:Nat}{zs:List α}(hz:Sz r F h B m L zs) (hF:∀cs x,r.rel F h cs x->r.rel (λb=>D b/\¬ai A b) h cs x) (hb:(n+m)*bytes<70000000000000) (hn:n+m<70000000000000) (hbase:D h.next) :
  ∃A' K' h',ah P h (Y (.slice e)) (Y (.slice e)) (ω A n K) (.slice B m L)=Y (ω A' (n+m) K',h')/\ay r h' D e A' (n+m) K' (xs ++ zs)/\Mt (ai A) h h'/\(∀b,ai A' b->ai A b\/h.next<=b):=by
 obtain⟨hl,ho⟩:=o;rcases Nat.eq_zero_or_pos m with h0 | h0
 .subst h0;have hzs:zs = []:=List.eq_nil_of_length_eq_zero hz.len;subst hzs;have hap:=fX (P:=P) (h:=h) (A:=A) (K:=K) (L:=L) (B:=B) (n:=n) (m:=0) (cells:=[]) hT (by simp) (by simp) (λh=>absurd h U) hb hn;rw[List.append_nil];have hle:n<=K / 2:=by
   rcases ho with⟨_,h1,h2⟩ | ⟨g,cells,_,_,_,_,_,hK,_⟩
   .omega
   .rcases hK with hK | hK
    .unfold cl at hK;omega
    .omega
  have hble:Nat.ble (n+0) (K / 2)=true:=Nat.ble_eq_true_of_le hle;refine⟨A,K,h,?_,⟨hl,ho⟩,Mt.refl _ _,λb hb=>.inl hb⟩;rw[hap,hble];simp only[cond_true];unfold ly;rcases ho with⟨rfl,rfl,rfl⟩ | ⟨g,cells,rfl,_⟩
  .rfl
  .rfl
 .obtain⟨b,ob,cells,rfl,hFb,hblt,hcl,hcc,hcf,hcr⟩:=hz.cells h0;have hap:=fX (P:=P) (h:=h) (A:=A) (K:=K) (L:=L) (B:=Y ⟨b,ob,η⟩) (n:=n) (m:=m) (cells:=cells) hT hcl hcf (λ_=>⟨b,ob,rfl,hcc⟩) hb hn;have hnle:Nat.ble (n+m) (K / 2)=false:=by
   have:¬n+m<=K / 2:=by
    rcases ho with⟨_,h1,h2⟩ | ⟨g,cells,_,_,_,_,_,hK,_⟩
    .omega
    .rcases hK with hK | hK
     .unfold cl at hK;omega
     .omega
   cases hb:Nat.ble (n+m) (K / 2) with
   | false=>rfl
   | true=>exact absurd (Nat.le_of_ble_eq_true hb) this
  rw[hnle]at hap;simp only[cond_false]at hap;rcases ho with⟨rfl,rfl,rfl⟩ | ⟨g,old,rfl,g1,g2,g3,g4,gK,g5,g6⟩
  .have hout:fZ h e r.size η 0 0 m cells=Y (oV m (cl m) h.next,h.new (.cells cells e false)):=rfl;have hxs:xs = []:=List.eq_nil_of_length_eq_zero hl;subst hxs;rw[hout]at hap;obtain⟨k1,k2,k3⟩:=aj (h:=h) (ao:=.cells cells e false) rfl;refine⟨Y ⟨h.next,0,η⟩,cl (0+m),h.new (.cells cells e false),by rw[hap,Nat.zero_add];rfl,⟨by rw[List.nil_append,hz.len,Nat.zero_add],.inr ⟨h.next,cells,rfl,hbase,by rw[k3];omega,k2,by rw[Nat.zero_add];exact hcl,.inl rfl,hcf,λk x hx=>?_⟩⟩,.of k1,λb hb=>.inr (by have:b=h.next:=hb;omega)⟩;have h9:=hF _ _ (hcr k x hx);have q1:r.rel (λc=>D c/\c<h.next) h ((cells.drop (k*r.size)).take r.size) x:=r.mono (λc hc hlt=>⟨hc.1,hlt⟩) h9;exact r.mono (λc hc _=>⟨hc.1,U⟩) (r.keep (λc hc hlt=>k1.get c hlt) k1.next q1)
  .have hcut:pI old 0 (n*r.size)=Y old:=by
    rw[uX U];simp[<-g4]
   have hcell:a8 h g=Y (old,e,false):=by unfold a8;rw[g3]
   obtain⟨h2,hh2,hget⟩:∃h2,fZ h e r.size (Y ⟨g,0,η⟩) n K m cells=Y (oV (n+m) (cl (n+m)) h.next,h2.new (.cells (old ++ cells) e false))/\(h2=h\/h2=h.del g):=by
    unfold fZ;simp only[hcell,hcut];cases hpar:Nat.beq (K % 2) 0 with
    | true=>exact⟨h,rfl,.inl rfl⟩
    | false=>
     refine⟨h.del g,?_,.inr rfl⟩;simp only[cond_false,Nat.beq_refl,Bool.not_false,Bool.and_self,cond_true]
   have hn2:h2.next=h.next:=by rcases hget with rfl | rfl <;>rfl
   have hg2:∀c,c≠g->h2.get c=h.get c:=λc hc=>by
    rcases hget with rfl | rfl
    .rfl
    .rw[get_del,if_neg hc]
   rw[hh2]at hap;have hgn:∀c,c≠g->c<h.next->(h2.new (.cells (old ++ cells) e false)).get c=h.get c:=λc hc hlt=>by
    rw[get_new,if_neg U];exact hg2 c hc
   refine⟨Y ⟨h.next,0,η⟩,cl (n+m),_,hap,⟨by rw[List.length_append,hl,hz.len],.inr ⟨h.next,old ++ cells,rfl,hbase,by rw[gP];omega,by rw[get_new,hn2,if_pos rfl],by rw[List.length_append,g4,hcl,Nat.add_mul],.inl rfl,λu hu=>?_,λk x hx=>?_⟩⟩,⟨by rw[gP];omega,λc hc hs=>hgn c (λe=>hs e) hc⟩,λc hc=>.inr (by have:c=h.next:=hc;omega)⟩
   .rcases List.mem_append.1 hu with hu | hu
    .exact g5 u hu
    .exact hcf u hu
   .have turn:∀{G:Nat->Prop}{cs:List Value}{x:α},(∀c,G c->c<h.next->D c/\c≠g)->r.rel G h cs x->r.rel (λc=>D c/\c≠h.next) (h2.new (.cells (old ++ cells) e false)) cs x:=by
     intro G cs x hG hr;have q1:r.rel (λc=>(D c/\c≠g)/\c<h.next) h cs x:=r.mono (λc hc hlt=>⟨hG c hc hlt,hlt⟩) hr;have q2:=r.keep (h':=h2.new (.cells (old ++ cells) e false)) (λc hc hlt=>hgn c hc.1.2 hlt) (by rw[gP];omega) q1;exact r.mono (λc hc _=>⟨hc.1.1,U⟩) q2
    have hsz:∀j,j<n->j*r.size+r.size<=old.length:=λj hj=>by
     rw[g4,<-Nat.succ_mul];exact Nat.mul_le_mul_right _ hj
    rw[List.getElem?_append]at hx
    split at hx
    .rename_i hlt;have h4:=hsz k U;rw[List.drop_append_of_le_length U,List.take_append_of_le_length (by simp;omega)];exact turn (λc hc _=>hc) (g6 k x hx)
    .rename_i hge;have h5:k*r.size=old.length+(k - n)*r.size:=by
      rw[g4,<-Nat.add_mul,Nat.add_sub_cancel' U]
     rw[h5,List.drop_append];have h6:List.drop (old.length+(k - n)*r.size) old = []:=List.drop_eq_nil_of_le U;rw[h6,List.nil_append,Nat.add_sub_cancel_left];exact turn (λc hc _=>⟨hc.1,λe=>hc.2 e⟩) (hF _ _ (hcr (k - n) x (by rw[<-hl];exact hx)))
end
section
variable {α:Type}{r:Rc α}{h h':AH}{D D':Nat->Prop}{e:TypeId}{A:Option Addr}{n K:Nat}{xs:List α}{P:Program}{bytes:Nat}
theorem ay.mono (o:ay r h D e A n K xs) (hD:∀b,D b->b<h.next->D' b):ay r h D' e A n K xs:=by
 obtain⟨hl,o⟩:=o;refine⟨hl,?_⟩;rcases o with o | ⟨g,cells,rfl,h1,h2,h3,h4,h5,h6,h7⟩
 .exact .inl o
 .exact .inr ⟨g,cells,rfl,hD g h1 h2,h2,h3,h4,h5,h6,λk x hx=>r.mono (λb hb hlt=>⟨hD b hb.1 hlt,hb.2⟩) (h7 k x hx)⟩
def qN (r:Rc α):Prop:=∀{F G:Nat->Prop}{h h':AH}{cs:List Value}{x:α},r.rel F h cs x->r.rel G h' cs x
theorem ay.lone (hr:qN r) (o:ay r h D e A n K xs):ay r h (ai A) e A n K xs:=by
 obtain⟨hl,o⟩:=o;refine⟨hl,?_⟩;rcases o with o | ⟨g,cells,rfl,h1,h2,h3,h4,h5,h6,h7⟩
 .exact .inl o
 .exact .inr ⟨g,cells,rfl,rfl,h2,h3,h4,h5,h6,λk x hx=>hr (h7 k x hx)⟩
theorem ay.own (o:ay r h D e A n K xs){b:Nat}(hb:ai A b):b<h.next:=(o.lt hb).2
theorem bq (hr:qN r) (hT:tf P e r.size bytes=true) (o:ay r h (ai A) e A n K xs){F:Nat->Prop}{B:Option Addr}{m L:Nat}{zs:List α}(hz:Sz r F h B m L zs) (hb:(n+m)*bytes<70000000000000) (hn:n+m<70000000000000) :
  ∃A' K' h',ah P h (Y (.slice e)) (Y (.slice e)) (ω A n K) (.slice B m L)=Y (ω A' (n+m) K',h')/\ay r h' (ai A') e A' (n+m) K' (xs ++ zs)/\Mt (ai A) h h'/\(∀b,ai A' b->ai A b\/(h.next<=b/\b<h'.next)):=by
 obtain⟨A',K',h',x1,x2,x3,x4⟩:=yP (D:=λ_=>True) hT (o.mono λ_ _ _=>trivial) hz (λcs x hx=>hr hx) hb hn trivial;exact⟨A',K',h',x1,x2.lone hr,x3,λb hb=>(x4 b hb).imp id λh=>⟨h,x2.own hb⟩⟩
theorem gQ (hT:tf P e r.size bytes=true) (o:ay r h D e A n K xs){F:Nat->Prop}{B:Option Addr}{m L:Nat}{zs:List α}(hz:Sz r F h B m L zs) (hF:∀b,F b->¬ai A b) (hb:(n+m)*bytes<70000000000000) (hn:n+m<70000000000000) :
  ∃A' K' h',ah P h (Y (.slice e)) (Y (.slice e)) (ω A n K) (.slice B m L)=Y (ω A' (n+m) K',h')/\ay r h' (λb=>D b\/F b\/b=h.next) e A' (n+m) K' (xs ++ zs)/\Mt (ai A) h h'/\(∀b,ai A' b->ai A b\/(h.next<=b/\b<h'.next)):=by
 obtain⟨A',K',h',x1,x2,x3,x4⟩:=yP (D:=λb=>D b\/F b\/b=h.next) hT (o.mono λ_ hb _=>.inl hb) hz (λcs x hx=>r.mono (λb hb _=>⟨.inr (.inl hb),hF b hb⟩) hx) hb hn (.inr (.inr rfl));exact⟨A',K',h',x1,x2,x3,λb hb=>(x4 b hb).imp id λh=>⟨h,x2.own hb⟩⟩
theorem Sz.one {F:Nat->Prop}{g L:Nat}{cells:List Value}{x:α}{t:TypeId}{f:Bool}(hg:h.get g=Y (.cells cells t f)) (hF:F g) (hlt:g<h.next) (hl:cells.length=r.size) (hx:r.rel F h cells x):Sz r F h (Y ⟨g,0,η⟩) 1 L [x]:=
 (Sa.of_bk (r:=r) (xs:=[x]) (n:=1) (K:=L) hg rfl hF hlt λk y hy=>by
  match k,hy with
  | 0,hy=>
   injection hy with hy;subst hy;rw[Nat.zero_mul,List.drop_zero,List.take_of_length_le U];exact hx).z
theorem gR (k:IntKind):qN (Rc.int k):=λh=>h
theorem tj (k k':IntKind):qN (Rc.pair k k'):=λh=>h
theorem fB (k k' k'':IntKind):qN (Rc.tri k k' k''):=λh=>h
end
end Eva
end
section
open Go Go.RowKit
namespace Eva
section
variable {F:Nat->Prop}{h:AH}{A:Option Addr}{n K:Nat}
theorem Sz.int {xs:List Int}(hs:Sz cI F h A n K xs){k:Nat}(hk:k<n):∃b o x,A=Y ⟨b,o,η⟩/\F b/\b<h.next/\xs[k]? = Y x/\ldC h b (o+k)=Y (ξ ψ x):=by
 obtain⟨b,o,x,cs,hA,hF,hb,hx,hc,hr⟩:=hs.get hk;refine⟨b,o,x,hA,hF,hb,hx,?_⟩;have hr':cs = [ξ ψ x]:=hr;have:=hc 0 (ξ ψ x) (by rw[hr'];rfl);simpa[Rc.int]using this
theorem Sz.rowZ {α:Type}{r:Rc α}{xs:List (List α)}(hs:Sz (Rc.sliceZ r) F h A n K xs){k:Nat}(hk:k<n):∃b o A' n' K' x,A=Y ⟨b,o,η⟩/\F b/\b<h.next/\xs[k]? = Y x/\ldC h b (o+k)=Y (ω A' n' K')/\Sz r F h A' n' K' x:=by
 obtain⟨b,o,x,cs,hA,hF,hb,hx,hc,A',n',K',hcs,hs'⟩:=hs.get hk;refine⟨b,o,A',n',K',x,hA,hF,hb,hx,?_,hs'⟩;have:=hc 0 (ω A' n' K') (by rw[hcs];rfl);simpa[Rc.sliceZ]using this
theorem Sz.tri {xs:List (Int×Int×Int)}(hs:Sz (Rc.tri .i64 .i64 .i64) F h A n K xs){k:Nat}(hk:k<n):∃b o x y z,A=Y ⟨b,o,η⟩/\F b/\b<h.next/\xs[k]? = Y (x,y,z)/\ldC h b (o+k*3)=Y (ξ ψ x)/\ldC h b (o+k*3+1)=Y (ξ ψ y)/\ldC h b (o+k*3+2)=Y (ξ ψ z):=by
 obtain⟨b,o,x,cs,hA,hF,hb,hx,hc,hr⟩:=hs.get hk;have hr':cs = [ξ ψ x.1,ξ ψ x.2.1,ξ ψ x.2.2]:=hr;have h0:=hc 0 (ξ ψ x.1) (by rw[hr'];rfl);have h1:=hc 1 (ξ ψ x.2.1) (by rw[hr'];rfl);have h2:=hc 2 (ξ ψ x.2.2) (by rw[hr'];rfl);exact⟨b,o,x.1,x.2.1,x.2.2,hA,hF,hb,hx,by simpa[Rc.tri]using h0,by simpa[Rc.tri,Nat.add_assoc]using h1,by simpa[Rc.tri,Nat.add_assoc]using h2⟩
theorem Sz.tableZ {xs:List (Int×Int×List Int)}(hs:Sz Rc.tableZ F h A n K xs){k:Nat}(hk:k<n):∃b o x y A' n' K' zs,A=Y ⟨b,o,η⟩/\F b/\b<h.next/\xs[k]? = Y (x,y,zs)/\ldC h b (o+k*3)=Y (ξ ψ x)/\ldC h b (o+k*3+1)=Y (ξ ψ y)/\ldC h b (o+k*3+2)=Y (ω A' n' K')/\Sz cI F h A' n' K' zs:=by
 obtain⟨b,o,x,cs,hA,hF,hb,hx,hc,A',n',K',hr',hs'⟩:=hs.get hk;have h0:=hc 0 (ξ ψ x.1) (by rw[hr'];rfl);have h1:=hc 1 (ξ ψ x.2.1) (by rw[hr'];rfl);have h2:=hc 2 (ω A' n' K') (by rw[hr'];rfl);exact⟨b,o,x.1,x.2.1,A',n',K',x.2.2,hA,hF,hb,hx,by simpa[Rc.tableZ]using h0,by simpa[Rc.tableZ,Nat.add_assoc]using h1,by simpa[Rc.tableZ,Nat.add_assoc]using h2,hs'⟩
end
end Eva
end
section
open Go Go.RowKit
namespace Eva
abbrev aS:Rc (Int×Int×Int):=Rc.tri .i64 .i64 .i64
abbrev jo:Rc (Int×Int):=Rc.pair .i64 .i64
theorem ae {x:Int}(h1:-9223372036854775808<=x) (h2:x<=9223372036854775807):IntKind.i64.wrap x=x:=IntWalk.i64_in _ ⟨h1,h2⟩
structure gS (h:AH) (Fa F:Nat->Prop) (g:Nat) (N:ab):Prop where
 own:F g/\g<h.next
 verts:∃A n K,ldC h g 0=Y (ω A n K)/\Sa aS F h A n K N.vs
 arcs:∃A n K,ldC h g 1=Y (ω A n K)/\Sa aS Fa h A n K N.xa
 types:∃A n K,ldC h g 2=Y (ω A n K)/\Sa Rc.table F h A n K N.ts
 ins:∃A n K,ldC h g 3=Y (ω A n K)/\Sa aM F h A n K (N.endsL false)
 outs:∃A n K,ldC h g 4=Y (ω A n K)/\Sa aM F h A n K (N.endsL true)
 pls:∃A n K,ldC h g 5=Y (ω A n K)/\Sa jo F h A n K N.plL
 ok:N.Ok
 few:N.nv<=1000/\N.na<=1000
section
variable {h h':AH}{Fa F:Nat->Prop}{g:Nat}{N:ab}{Q:Value->AH->Prop}
theorem gS.keep (G:gS h Fa F g N) (hk:∀b,F b\/Fa b->b<h.next->h'.get b=h.get b) (hn:h.next<=h'.next):gS h' Fa F g N:=by
 have hc:∀o,ldC h' g o=ldC h g o:=λo=>bj (hk g (.inl G.own.1) G.own.2) o;have hF:∀b,F b->b<h.next->h'.get b=h.get b:=λb h=>hk b (.inl h);have hA:∀b,Fa b->b<h.next->h'.get b=h.get b:=λb h=>hk b (.inr h);refine⟨⟨G.own.1,Nat.lt_of_lt_of_le G.own.2 hn⟩,?_,?_,?_,?_,?_,?_,G.ok,G.few⟩
 .obtain⟨A,n,c,h1,h2⟩:=G.verts;exact⟨A,n,c,(hc 0).trans h1,h2.keep hF hn⟩
 .obtain⟨A,n,c,h1,h2⟩:=G.arcs;exact⟨A,n,c,(hc 1).trans h1,h2.keep hA hn⟩
 .obtain⟨A,n,c,h1,h2⟩:=G.types;exact⟨A,n,c,(hc 2).trans h1,h2.keep hF hn⟩
 .obtain⟨A,n,c,h1,h2⟩:=G.ins;exact⟨A,n,c,(hc 3).trans h1,h2.keep hF hn⟩
 .obtain⟨A,n,c,h1,h2⟩:=G.outs;exact⟨A,n,c,(hc 4).trans h1,h2.keep hF hn⟩
 .obtain⟨A,n,c,h1,h2⟩:=G.pls;exact⟨A,n,c,(hc 5).trans h1,h2.keep hF hn⟩
theorem gS.nw (G:gS h Fa F g N) (a:Nw h h'):gS h' Fa F g N:=G.keep (λb _ hb=>a.get b hb) a.next
theorem KU (G:gS h Fa F g N) (a:Int) (K:Q (.bool (decide (0<=a/\a<N.na))) h):WC Tryz.prog 157 [ν (Y ⟨g,0,η⟩),ξ ψ a] h Q:=by
 obtain⟨A,n,c,c1,s1⟩:=G.arcs;have hn:N.na=n:=s1.len;refine lP ⟨λh1=>?_,λh1=>?_⟩
 .repeat (first | refine⟨_,_,rfl,?_⟩ | refine⟨_,_,_,(by assumption),?_⟩ | refine⟨_,(by assumption),?_⟩ | refine⟨_,rfl,?_⟩ | refine⟨(by first | assumption | omega),?_⟩ | refine⟨λhb=>?_,λhb=>absurd hb U⟩ | refine⟨λhb=>absurd hb U,λhb=>?_⟩ | refine⟨λ_=>?_,λhb=>Bool.noConfusion hb⟩ | refine⟨λhb=>Bool.noConfusion hb,λ_=>?_⟩)
  refine⟨λh2=>?_,λh2=>?_⟩
  .rwa [show decide (0<=a/\a<(N.na:Int))=true by simp;omega]at K
  .rwa [show decide (0<=a/\a<(N.na:Int))=false by simp;omega]at K
 .rwa [show decide (0<=a/\a<(N.na:Int))=false by simp;omega]at K
theorem tk (G:gS h Fa F g N){a:Nat}(ha:a<N.na) (K:Q (.bool true) h):WC Tryz.prog 157 [ν (Y ⟨g,0,η⟩),ξ ψ a] h Q:=
 KU G a (by rwa [show decide (0<=(a:Int)/\(a:Int)<(N.na:Int))=true by simp;omega])
theorem gS.arc_ (G:gS h Fa F g N){a:Nat}(ha:a<N.na):∃b o n K,ldC h g 1=Y (ω (Y ⟨b,o,η⟩) n K)/\a<n/\b<h.next/\Fa b/\ldC h b (o+a*3)=Y (ξ ψ (N.fr a:Int))/\ldC h b (o+a*3+1)=Y (ξ ψ (N.to a:Int))/\ldC h b (o+a*3+2)=Y (ξ ψ (N.w a)):=by
 obtain⟨A,n,K,c1,s1⟩:=G.arcs;have hn:N.na=n:=s1.len;obtain⟨b,o,x,y,z,rfl,hF,hb,hx,e0,e1,e2⟩:=s1.tri (k:=a) U;rw[N.arc_get ha]at hx;injection hx with hx;have h1:x=(N.fr a:Int):=by rw[<-(ab.fr_lt G.ok ha).2,hx]
 have h2:y=(N.to a:Int):=by rw[<-(ab.to_lt G.ok ha).2,hx]
 have h3:z=N.w a:=by simp[ab.w,ha,hx]
 subst h1 h2 h3;exact⟨b,o,n,K,c1,U,hb,hF,e0,e1,e2⟩
theorem wR (G:gS h Fa F g N){a:Nat}(ha:a<N.na) (K:Q (ξ ψ (N.fr a:Int)) h):WC Tryz.prog 124 [ν (Y ⟨g,0,η⟩),ξ ψ a] h Q:=by
 obtain⟨b,o,n,c,c1,hn,-,-,e0,e1,e2⟩:=G.arc_ ha;refine kB (tk G ha ?_)
 repeat (first | refine⟨_,_,rfl,?_⟩ | refine⟨_,_,_,(by assumption),?_⟩ | refine⟨_,(by assumption),?_⟩ | refine⟨_,rfl,?_⟩ | refine⟨(by first | assumption | omega),?_⟩ | refine⟨λhb=>?_,λhb=>absurd hb U⟩ | refine⟨λhb=>absurd hb U,λhb=>?_⟩ | refine⟨λ_=>?_,λhb=>Bool.noConfusion hb⟩ | refine⟨λhb=>Bool.noConfusion hb,λ_=>?_⟩)
 exact K
theorem GX (G:gS h Fa F g N){a:Nat}(ha:a<N.na) (K:Q (ξ ψ (N.to a:Int)) h):WC Tryz.prog 125 [ν (Y ⟨g,0,η⟩),ξ ψ a] h Q:=by
 obtain⟨b,o,n,c,c1,hn,-,-,e0,e1,e2⟩:=G.arc_ ha;refine nG (tk G ha ?_)
 repeat (first | refine⟨_,_,rfl,?_⟩ | refine⟨_,_,_,(by assumption),?_⟩ | refine⟨_,(by assumption),?_⟩ | refine⟨_,rfl,?_⟩ | refine⟨(by first | assumption | omega),?_⟩ | refine⟨λhb=>?_,λhb=>absurd hb U⟩ | refine⟨λhb=>absurd hb U,λhb=>?_⟩ | refine⟨λ_=>?_,λhb=>Bool.noConfusion hb⟩ | refine⟨λhb=>Bool.noConfusion hb,λ_=>?_⟩)
 exact K
theorem me (G:gS h Fa F g N){a:Nat}(ha:a<N.na) (K:Q (ξ ψ (N.w a)) h):WC Tryz.prog 88 [ν (Y ⟨g,0,η⟩),ξ ψ a] h Q:=by
 obtain⟨b,o,n,c,c1,hn,-,-,e0,e1,e2⟩:=G.arc_ ha;refine jh (tk G ha ?_)
 repeat (first | refine⟨_,_,rfl,?_⟩ | refine⟨_,_,_,(by assumption),?_⟩ | refine⟨_,(by assumption),?_⟩ | refine⟨_,rfl,?_⟩ | refine⟨(by first | assumption | omega),?_⟩ | refine⟨λhb=>?_,λhb=>absurd hb U⟩ | refine⟨λhb=>absurd hb U,λhb=>?_⟩ | refine⟨λ_=>?_,λhb=>Bool.noConfusion hb⟩ | refine⟨λhb=>Bool.noConfusion hb,λ_=>?_⟩)
 exact K
theorem tm (G:gS h Fa F g N) (K:Q (ξ ψ (N.na:Int)) h):WC Tryz.prog 27 [ν (Y ⟨g,0,η⟩)] h Q:=by
 obtain⟨A,n,c,c1,s1⟩:=G.arcs;have hn:N.na=n:=s1.len;refine kA ?_
 repeat (first | refine⟨_,_,rfl,?_⟩ | refine⟨_,_,_,(by assumption),?_⟩ | refine⟨_,(by assumption),?_⟩ | refine⟨_,rfl,?_⟩ | refine⟨(by first | assumption | omega),?_⟩ | refine⟨λhb=>?_,λhb=>absurd hb U⟩ | refine⟨λhb=>absurd hb U,λhb=>?_⟩ | refine⟨λ_=>?_,λhb=>Bool.noConfusion hb⟩ | refine⟨λhb=>Bool.noConfusion hb,λ_=>?_⟩)
 rw[hn]at K;exact K
theorem DY (G:gS h Fa F g N) (K:Q (ξ ψ (N.nv:Int)) h):WC Tryz.prog 182 [ν (Y ⟨g,0,η⟩)] h Q:=by
 obtain⟨A,n,c,c1,s1⟩:=G.verts;have hn:N.nv=n:=s1.len;refine jQ ?_
 repeat (first | refine⟨_,_,rfl,?_⟩ | refine⟨_,_,_,(by assumption),?_⟩ | refine⟨_,(by assumption),?_⟩ | refine⟨_,rfl,?_⟩ | refine⟨(by first | assumption | omega),?_⟩ | refine⟨λhb=>?_,λhb=>absurd hb U⟩ | refine⟨λhb=>absurd hb U,λhb=>?_⟩ | refine⟨λ_=>?_,λhb=>Bool.noConfusion hb⟩ | refine⟨λhb=>Bool.noConfusion hb,λ_=>?_⟩)
 rw[hn]at K;exact K
end
end Eva
end
section
open Go Go.RowKit
namespace Eva
theorem dR:tf Tryz.prog 3 1 8=true:=by kernel_rfl
section
variable {h h':AH}{Fa F:Nat->Prop}{g:Nat}{N:ab}{Q:Value->AH->Prop}{A:Option Addr}{n K:Nat}{xs:List Int}
theorem GY (hs:Sa cI F h A n K xs) (hn:n<=100000){B:Option Addr}{L:Nat}{h1:AH}(k1:Nw h h1) (hB:ay cI h1 (λb=>h.next<=b) 3 B 0 L []) :
  ∃A' K' h',ah Tryz.prog h1 (Y (.slice 3)) (Y (.slice 3)) (.slice B 0 L) (ω A n K)=Y (ω A' n K',h')/\Sa cI (λb=>h.next<=b) h' A' n K' xs/\Nw h h':=by
 obtain⟨A',K',h',x1,x2,x3,x4⟩:=yP (r:=cI) dR hB (hs.nw k1).z (λ_ _ h=>h) U U k1.next;refine⟨A',K',h',by rw[Nat.zero_add]at x1;exact x1,?_,x3.is_nw k1 λb hb=>(hB.lt hb).1⟩;have:=x2.sa
 rwa [Nat.zero_add,List.nil_append]at this
theorem HL (hs:Sa cI F h A n K xs) (hn:n<=100000) (hK:∀A' K' h',Sa cI (λb=>h.next<=b) h' A' n K' xs->Nw h h'->Q (ω A' n K') h'):WC Tryz.prog 42 [ω A n K] h Q:=by
 refine cg ⟨λhA=>?_,λhA=>?_⟩
 .obtain⟨h0,h1⟩:=hs.nil0 hA;refine⟨h0,h1,?_⟩;subst hA h0 h1;exact hK η 0 h ⟨hs.len,.inl ⟨rfl,rfl,rfl⟩,λh=>absurd h U⟩ (Nw.refl _)
 .obtain⟨b,o,rfl⟩:=hs.some_ hA;refine⟨b,o,rfl,λh1 e1=>?_⟩;obtain⟨k1,g1,z1⟩:=aj e1;obtain⟨A',K',h',x1,x2,x3⟩:=GY hs hn k1 (ay.lit (r:=cI) (xs:=[]) (n:=0) g1 (Nat.le_refl _) U rfl rfl (by simp) (by simp));exact⟨A',n,K',h',x1,hK _ _ _ x2 x3⟩
theorem HM (G:gS h Fa F g N){v:Nat}(hv:v<N.nv) (K:Q (.bool true) h):WC Tryz.prog 222 [ν (Y ⟨g,0,η⟩),ξ ψ v] h Q:=by
 obtain⟨A,n,c,c1,s1⟩:=G.verts;have hn:N.nv=n:=s1.len;refine kG ⟨λh1=>?_,λh1=>absurd h1 U⟩
 repeat (first | refine⟨_,_,rfl,?_⟩ | refine⟨_,_,_,(by assumption),?_⟩ | refine⟨_,(by assumption),?_⟩ | refine⟨_,rfl,?_⟩ | refine⟨(by first | assumption | omega),?_⟩ | refine⟨λhb=>?_,λhb=>absurd hb U⟩ | refine⟨λhb=>absurd hb U,λhb=>?_⟩ | refine⟨λ_=>?_,λhb=>Bool.noConfusion hb⟩ | refine⟨λhb=>Bool.noConfusion hb,λ_=>?_⟩)
 exact K
theorem GZ (G:gS h Fa F g N){v:Nat}(hv:v<N.nv) (hK:∀A' K' h',Sa cI (λb=>h.next<=b) h' A' (N.from_ v).length K' (ints (N.from_ v))->Nw h h'->Q (ω A' (N.from_ v).length K') h'):WC Tryz.prog 163 [ν (Y ⟨g,0,η⟩),ξ ψ v] h Q:=by
 obtain⟨A,n,K,c4,s4⟩:=G.outs;have hn:v<n:=by rw[<-s4.len];simpa[ab.endsL]using hv
 obtain⟨b,o,A1,n1,K1,x,rfl,hF,hb,hx,e1,hr⟩:=s4.row hn;have hxe:x=ints (N.from_ v):=by
  simp[ab.endsL,hv]at hx;rw[<-hx,ab.from_ints];rfl
 subst hxe;have hl:(N.from_ v).length=n1:=by simpa[ints]using hr.len
 have hl2:n1<=1000:=by
  rw[<-hl];exact Nat.le_trans (aL _ _) G.few.2
 refine kC (HM G hv ?_);refine⟨_,rfl,λ_=>?_,λh=>Bool.noConfusion h⟩;refine⟨_,_,rfl,_,_,_,c4,_,rfl,_,_,rfl,hn,_,_,_,e1,?_⟩;refine HL hr U λA' K' h' k1 k2=>?_;rw[<-hl]at k1⊢;exact⟨_,_,_,rfl,hK _ _ _ k1 k2⟩
theorem HN {ins outs:Int}(hi:0<=ins/\ins<=16) (ho:0<=outs/\outs<=16) (K:Q .nilIface h):WC Tryz.prog 199 [ξ ψ ins,ξ ψ outs] h Q:=by
 refine lQ ⟨λh=>absurd h U,λ_=>?_⟩;refine⟨λh=>absurd h U,λ_=>?_⟩;refine⟨λh=>absurd h U,λ_=>?_⟩;exact⟨λh=>absurd h U,λ_=>K⟩
theorem z0 {ins outs:Int}{costs:List Int}(hs:Sa cI F h A n K costs) (hok:dM ins outs costs) (i o:Nat) (hi16:i<=1000) (ho16:o<=1000) (hK:∀h',Nw h h'->Q (ξ ψ (iN (ins,outs,costs) i o)) h') :
  WC Tryz.prog 126 [.agg #[ξ ψ ins,ξ ψ outs,ω A n K],ξ ψ i,ξ ψ o] h Q:=by
 have hI:=hok.ins_;have hO:=hok.outs_;have hlen:=hok.len;refine Bz λh1 e1=>?_;obtain⟨k1,g1,z1⟩:=aj e1;have c0:ldC h1 h.next 0=Y (ξ ψ ins):=aa g1 rfl;have c1:ldC h1 h.next 1=Y (ξ ψ outs):=aa g1 rfl;have c2:ldC h1 h.next 2=Y (ω A n K):=aa g1 rfl;have inf:¬((i:Int)<ins/\(o:Int)<outs)->Q (ξ ψ 1152921504606846976) h1:=λhno=>by
  have:=hK h1 k1
  rwa [iN,if_neg hno]at this
 refine⟨λh=>absurd h U,λ_=>⟨_,c0,λhb=>inf U,λhb1=>⟨λh=>absurd h U,λ_=>⟨_,c1,λhb=>inf U,λhb2=>⟨_,c0,_,c1,?_⟩⟩⟩⟩⟩;refine HN hI hO ⟨η,rfl,λ_=>?_,λt u h=>by cases h⟩;obtain⟨ins,rfl⟩:=Int.eq_ofNat_of_zero_le hI.1;obtain⟨outs,rfl⟩:=Int.eq_ofNat_of_zero_le hO.1;have h1':i<ins:=U;have h2':o<outs:=U;have hn:n=ins*outs:=by
  have:=hs.len;have h3:((costs.length:Nat):Int)=((ins*outs:Nat):Int):=by rw[hlen];simp
  omega
 have hlt:i*outs+o<n:=by rw[hn];exact qH h1' h2'
 have hmul:i*outs<=1000*16:=Nat.mul_le_mul U U;obtain⟨b,of,x,rfl,hF,hb,hx,e0⟩:=hs.int hlt;have e0':=(k1.ldC hb (of+(i*outs+o))).trans e0;obtain⟨t,ht⟩:∃t,i*outs=t:=⟨_,rfl⟩;rw[ht]at hlt hmul e0' hx;have w1:IntKind.i64.wrap ((i:Int)*(outs:Int))=(t:Int):=by
  rw[<-Int.natCast_mul,ht];exact ae U U
 have w2:IntKind.i64.wrap ((t:Int)+(o:Int))=((t+o:Nat):Int):=by rw[Int.natCast_add];exact ae U U
 refine⟨_,c1,_,w1,_,w2,_,_,_,c2,λ_=>⟨_,_,_,c2,_,rfl,_,_,rfl,hlt,_,e0',?_⟩,λh=>absurd h U⟩;have:=hK h1 k1
 rwa [iN,if_pos (show(i:Int)<(ins:Int)/\(o:Int)<(outs:Int) from ⟨U,U⟩),show(costs[i*(outs:Int).toNat+o]?)=Y x by rw[Int.toNat_natCast,ht];exact hx]at this
end
end Eva
end
section
open Go Go.RowKit
namespace Eva
theorem aD {h h1:AH}{z vs:List Value}{t:TypeId}(e1:h1=AH.new h (.cells z t false)) (hl:z.length=vs.length) (hf:∀v∈vs,flat v=true) :
  ∃h2,j0 h1 h.next 0 vs=Y h2/\Nw h h2/\Bk h2 h.next vs t/\h2.next=h.next+1:=by
 obtain⟨k1,g1,z1⟩:=aj e1;refine⟨_,GW (e:=t) g1 U hf,k1.put (Nat.le_refl _) _,?_,z1⟩;rw[Bk,get_put,if_pos rfl];simp[hl]
theorem dh {h:AH}{b:Nat}{c vs:List Value}{t:TypeId}(hb:Bk h b c t) (hl:c.length=vs.length) (hf:∀v∈vs,flat v=true) :
  ∃h2,j0 h b 0 vs=Y h2/\Bk h2 b vs t/\h2.next=h.next/\∀b',b'≠b->h2.get b' = h.get b':=by
 refine⟨_,GW hb U hf,?_,rfl,λb' hb'=>by rw[get_put,if_neg hb']⟩;rw[Bk,get_put,if_pos rfl];simp[hl]
theorem ax {h:AH}{b o:Nat}{c:List Value}{t:TypeId}{v:Value}(hb:Bk h b c t) (ho:o<c.length) (hf:flat v=true) :
  ∃h2,j0 h b o [v]=Y h2/\Bk h2 b (c.set o v) t/\h2.next=h.next/\∀b',b'≠b->h2.get b' = h.get b':=
 ⟨_,st1 hb ho hf,by rw[Bk,get_put,if_pos rfl],rfl,λb' hb'=>by rw[get_put,if_neg hb']⟩
theorem cR {a b:Value}(ha:flat a=true) (hb:flat b=true):∀v∈[a,b],flat v=true:=by simp[ha,hb]
theorem eR {a b c:Value}(ha:flat a=true) (hb:flat b=true) (hc:flat c=true):∀v∈[a,b,c],flat v=true:=by simp[ha,hb,hc]
theorem kT {h:AH}{b o:Nat}{u v:Value}(h0:ldC h b o=Y u) (h1:ldC h b (o+1)=Y v):aB h b o 2=Y [u,v]:=
 nR rfl U λj x hj=>by
  match j,hj with
  | 0,hj=>injection hj with hj;subst hj;exact h0
  | 1,hj=>injection hj with hj;subst hj;exact h1
theorem wS {h:AH}{b o:Nat}{u v x:Value}(h0:ldC h b o=Y u) (h1:ldC h b (o+1)=Y v) (h2:ldC h b (o+2)=Y x):aB h b o 3=Y [u,v,x]:=
 nR rfl U λj y hj=>by
  match j,hj with
  | 0,hj=>injection hj with hj;subst hj;exact h0
  | 1,hj=>injection hj with hj;subst hj;exact h1
  | 2,hj=>injection hj with hj;subst hj;exact h2
section
variable {h h':AH}{Fa F:Nat->Prop}{g:Nat}{N:ab}{Q:Value->AH->Prop}{A:Option Addr}{n K:Nat}
theorem G0 (G:gS h Fa F g N){a b:Nat}(ha:a<N.na) (hb:b<N.na) (hK:∀h',Nw h h'->Q (ξ ψ (N.turn a b)) h'):WC Tryz.prog 164 [ν (Y ⟨g,0,η⟩),ξ ψ a,ξ ψ b] h Q:=by
 obtain⟨b1,o1,n1,K1,c1,hn1,l1,-,e0,e1,e2⟩:=G.arc_ ha;obtain⟨b1',o1',n1',K1',c1',hn1',l1',-,f0,f1,f2⟩:=G.arc_ hb;refine kD (tk G ha ⟨_,rfl,λ_=>?_,λh=>Bool.noConfusion h⟩);refine tk G hb ⟨_,rfl,λ_=>?_,λh=>Bool.noConfusion h⟩;refine⟨_,_,rfl,_,_,_,c1,_,rfl,_,_,rfl,hn1,_,e1,_,_,_,c1',_,rfl,_,_,rfl,hn1',_,f0,λhab=>?_,λhab=>?_⟩
 .have hab':N.to a=N.fr b:=U;have hvt:=(ab.to_lt G.ok ha).1;obtain⟨tok,t,vx,t1,t2,t3,t4,t5⟩:=ab.tab_ok G.ok hvt;obtain⟨A0,n0,K0,g0,s0⟩:=G.verts;obtain⟨A2,n2,K2,g2,s2⟩:=G.types;obtain⟨A5,n5,K5,g5,s5⟩:=G.pls;have hn0:N.to a<n0:=by rw[<-s0.len];exact hvt
  have hn2:vx.2.2.toNat<n2:=by rw[<-s2.len];omega
  have hn5:n5=N.na:=by rw[<-s5.len];simp[ab.plL]
  obtain⟨b0,o0,u1,u2,u3,rfl,-,q0,r2,r3,r4,r5⟩:=s0.tri hn0;obtain⟨b2,o2,v1,v2,A',n',K',zs,rfl,-,q2,k2,k3,k4,k5,k6⟩:=s2.table hn2;obtain⟨b5,o5,pa,pb,rfl,-,q5,j2,j3,j4⟩:=s5.pair (k:=a) U;obtain⟨b5',o5',pa',pb',hA5,-,q5',i2,i3,i4⟩:=s5.pair (k:=b) U;injection hA5 with hA5;injection hA5 with hA51 hA52;subst hA51 hA52;rw[t1]at r2;injection r2 with r2;subst r2;have hu3:(u3.toNat:Int)=u3:=Int.toNat_of_nonneg t4;simp only at hn2 k2 k3 k4 k5;have hpa:pa=(N.inPl a:Int):=by simp[ab.plL,ha]at j2;exact j2.1.symm
  have hpb:pb' = (N.outPl b:Int):=by simp[ab.plL,hb]at i2;exact i2.2.symm
  have htab:(v1,v2,zs)=N.tab (N.to a):=by
   simp only at t2;rw[t2]at k2;injection k2 with k2;rw[<-k2,t3]
  have hi1:N.inPl a<=1000:=Nat.le_trans (wK _ _ _) (by have:=G.few.2;omega);have ho1:N.outPl b<=1000:=Nat.le_trans (wK _ _ _) (by have:=G.few.2;omega);subst hpa hpb;refine⟨_,_,_,g0,_,_,_,c1,_,_,rfl,hn1,_,e1,_,rfl,_,_,rfl,hn0,_,_,_,wS r3 r4 r5,λh3 e3=>?_⟩;obtain⟨h4,hs4,k4',g4,z4⟩:=aD (vs:=[ξ ψ u1,ξ ψ u2,ξ ψ u3]) e3 rfl (eR rfl rfl rfl);have x9:ldC h4 h.next 2=Y (ξ ψ u3):=aa g4 rfl;refine⟨h4,hs4,_,_,_,(k4'.ldC G.own.2 _).trans g2,_,x9,u3.toNat,hu3.symm,_,_,rfl,hn2,_,_,_,_,_,wS ((k4'.ldC q2 _).trans k3) ((k4'.ldC q2 _).trans k4) ((k4'.ldC q2 _).trans k5),_,_,_,(k4'.ldC G.own.2 _).trans g5,_,_,rfl,U,_,(k4'.ldC q5 _).trans j3,_,_,_,(k4'.ldC G.own.2 _).trans g5,_,_,rfl,U,_,(k4'.ldC q5 _).trans i4,?_⟩;refine z0 (k6.nw k4') (by rw[<-htab]at tok;exact tok) (N.inPl a) (N.outPl b) hi1 ho1 λh5 k5'=>⟨_,rfl,?_⟩;have:=hK h5 (k4'.trans k5')
  rwa [ab.turn,if_pos ⟨ha,hb,hab'⟩,<-htab]at this
 .have:=hK h (Nw.refl _)
  rwa [ab.turn,if_neg (λh=>hab (by rw[h.2.2]))]at this
theorem Ac (a:Int) (hK:Q (ξ ψ (eP a)) h):WC Tryz.prog 137 [ξ ψ a] h Q:=by
 refine wu ⟨λh1=>?_,λh1=>⟨λh2=>?_,λh2=>?_⟩⟩
 .rwa [eP,if_pos h1]at hK
 .rwa [eP,if_neg h1,if_pos h2]at hK
 .rwa [eP,if_neg h1,if_neg h2]at hK
theorem DZ (a b:Int) (hK:Q (ξ ψ (iU a b)) h):WC Tryz.prog 66 [ξ ψ a,ξ ψ b] h Q:=by
 have h1:=gN a;have h2:=gN b;exact yz (Ac _ ⟨_,rfl,Ac _ ⟨_,rfl,_,ae U U,Ac _ ⟨_,rfl,hK⟩⟩⟩)
theorem KV {F:Nat->Prop}{l:List Int}(hs:Sa cI F h A n K l) (hn:n<=1000000) (hK:Q (ξ ψ (kR l)) h):WC Tryz.prog 95 [ω A n K] h Q:=by
 refine yy ⟨λm acc i h1=>∃k:Nat,i=k/\k<=n/\m=n - k/\acc=kR (l.take k)/\h1=h,n,⟨0,rfl,Nat.zero_le _,rfl,by simp[kR],rfl⟩,?_⟩;rintro m acc i h1 ⟨k,rfl,hk,rfl,rfl,rfl⟩;refine⟨λhlt=>?_,λhge=>?_⟩
 .obtain⟨b,o,x,rfl,hF,hb,hx,e0⟩:=hs.int (k:=k) U;exact⟨_,rfl,_,_,rfl,U,_,e0,DZ _ _ ⟨_,rfl,_,ae U U,n - (k+1),U,k+1,U,U,rfl,(BN hx).symm,rfl⟩⟩
 .have:l.take k=l:=List.take_of_length_le (by rw[hs.len];omega)
  rwa [this]
theorem HO (x:Int) (hK:Q (.bool false) h):WC Tryz.prog 282 [ξ ψ x] h Q:=kz ⟨λ_=>hK,λh=>absurd rfl h⟩
theorem uY (x:Int) (hK:Q (.bool false) h):WC Tryz.prog 147 [ξ ψ x] h Q:=pd ⟨λ_=>hK,λh=>absurd rfl h⟩
theorem G1 (a b:Int) (hK:Q (.bool (decide (a<b))) h):WC Tryz.prog 281 [ξ ψ a,ξ ψ b] h Q:=by
 refine qr (uY _ ⟨_,rfl,λh=>Bool.noConfusion h,λ_=>⟨λh1=>?_,λh1=>?_⟩⟩)
 .rwa [decide_eq_true h1]at hK
 .rwa [decide_eq_false h1]at hK
theorem D0 {i j:Nat}(hi:i<=100000) (hj:j<=100000):IntKind.i64.wrap ((i:Int)+(j:Int))=((i+j:Nat):Int)/\IntKind.u64.wrap ((i+j:Nat):Int)=((i+j:Nat):Int)/\Int.fdiv ((i+j:Nat):Int) (2 ^ 1)=(((i+j) / 2:Nat):Int)/\IntKind.i64.wrap (((i+j) / 2:Nat):Int)=(((i+j) / 2:Nat):Int):=by
 refine⟨by rw[Int.natCast_add];exact ae U U,?_,?_,ae U U⟩
 .simp[IntKind.wrap,IntKind.bits,IntKind.signed];omega
 .rw[Int.fdiv_eq_ediv_of_nonneg _ (by decide)];omega
theorem FQ {F:Nat->Prop}{l:List Nat}(a:Nat) (hs:Sa cI F h A n K (ints l)) (hasc:l.Pairwise (· < ·)) (hn:n<=100000) (hK:∀(i:Nat) (b:Bool),(b=true->l[i]? = Y a)->(b=false->a ∉ l)->Q (.tuple #[ξ ψ i,.bool b]) h) :
  WC Tryz.prog 223 [ω A n K,ξ ψ a] h Q:=by
 have hl:l.length=n:=by simpa[ints]using hs.len
 have hget:∀(k y:Nat),l[k]? = Y y->(ints l)[k]? = Y (y:Int):=λk y hy=>by simp[ints,hy]
 refine ez ⟨λm x y h1=>∃i j:Nat,x=i/\y=j/\m=j - i/\i<=j/\j<=n/\(∀(k y:Nat),k<i->l[k]? = Y y->y<a)/\(∀(k y:Nat),j<=k->l[k]? = Y y->a<=y)/\h1=h,n,⟨0,n,rfl,rfl,rfl,Nat.zero_le _,Nat.le_refl _,λk y h=>U,λk y hk hy=>by have:=(List.getElem?_eq_some_iff.1 hy).1;omega,rfl⟩,?_⟩;rintro m x y h1 ⟨i,j,rfl,rfl,rfl,hij,hjn,ha,hb,rfl⟩;refine⟨λhlt=>?_,λhge=>?_⟩
 .obtain⟨w1,w2,w3,w4⟩:=D0 (i:=i) (j:=j) U U;obtain⟨q,hq⟩:∃q,(i+j) / 2=q:=⟨_,rfl⟩;rw[hq]at w3 w4;have q1:i<=q:=U;have q2:q<j:=U;obtain⟨b,o,x,rfl,hF,hbl,hx,e0⟩:=hs.int (k:=q) U;obtain⟨y,hy⟩:∃y,l[q]? = Y y:=⟨_,List.getElem?_eq_getElem U⟩;rw[hget q y hy]at hx;injection hx with hx;subst hx;refine⟨_,w1,_,w2,_,w3,_,w4,_,rfl,_,_,rfl,U,_,e0,G1 _ _ ⟨_,rfl,λht=>?_,λht=>?_⟩⟩
  .have hya:y<a:=by have:=of_decide_eq_true ht;omega
   refine⟨_,ae U U,j - (q+1),U,q+1,j,U,rfl,rfl,U,hjn,λk z hk hz=>?_,hb,rfl⟩;by_cases e:k=q
   .subst e;rw[hy]at hz;injection hz with hz;omega
   .have:=jH hasc hz hy U;omega
  .have hya:a<=y:=by have:=of_decide_eq_false ht;omega
   refine⟨q - i,U,i,q,rfl,rfl,rfl,q1,U,ha,λk z hk hz=>?_,rfl⟩;by_cases e:k=q
   .subst e;rw[hy]at hz;injection hz with hz;omega
   .have:=jH hasc hy hz U;omega
 .obtain rfl:i=j:=U;refine⟨λhlt=>?_,λhge2=>?_⟩
  .obtain⟨b,o,x,rfl,hF,hbl,hx,e0⟩:=hs.int (k:=i) U;obtain⟨y,hy⟩:∃y,l[i]? = Y y:=⟨_,List.getElem?_eq_getElem U⟩;rw[hget i y hy]at hx;injection hx with hx;subst hx;refine⟨_,rfl,_,_,rfl,U,_,e0,λhya=>?_,λhya=>⟨U,_,e0,HO _ ⟨_,rfl,λh=>Bool.noConfusion h,λ_=>?_⟩⟩⟩
   .have:y=a:=U;subst this;exact hK i true (λ_=>hy) (λh=>Bool.noConfusion h)
   .refine hK i false (λh=>Bool.noConfusion h) λ_ hm=>?_;obtain⟨k,hk⟩:=List.getElem?_of_mem hm;have g1:¬k<i:=λhk1=>by have:=ha k a hk1 hk;omega
    have g2:=hb i y (Nat.le_refl _) hy;by_cases e:k=i
    .subst e;rw[hy]at hk;injection hk with hk;omega
    .have:=jH hasc hy hk U;omega
  .refine hK i false (λh=>Bool.noConfusion h) λ_ hm=>?_;obtain⟨k,hk⟩:=List.getElem?_of_mem hm;have hkl:=(List.getElem?_eq_some_iff.1 hk).1;have:=ha k a U hk;omega
theorem uZ {F:Nat->Prop}{l:List Nat}(a:Nat) (hs:Sa cI F h A n K (ints l)) (hasc:l.Pairwise (· < ·)) (hn:n<=100000) (hK:Q (ξ ψ (cE l a)) h):WC Tryz.prog 165 [ω A n K,ξ ψ a] h Q:=by
 refine uA (FQ a hs hasc hn λi b h1 h2=>⟨_,_,rfl,λhb=>?_,λhb=>?_⟩)
 .have h1:=h1 hb;have hm:=List.mem_of_getElem? h1
  rwa [cE,if_pos hm,iu hasc (aW hm) h1]at hK
 .rwa [cE,if_neg (h2 hb)]at hK
end
end Eva
end
section
open Go Go.RowKit
namespace Eva
structure fE (h:AH) (F:Nat->Prop) (o:Nat) (N:ab) (p:List (List Int)):Prop where
 own:F o/\o<h.next
 part:∃A n K,ldC h o 0=Y (ω A n K)/\Sa aM F h A n K p
 from_:∃A n K,ldC h o 1=Y (ω A n K)/\Sa cI F h A n K ((List.range N.na).map λa=>((N.fr a:Nat):Int))
 to_:∃A n K,ldC h o 2=Y (ω A n K)/\Sa cI F h A n K ((List.range N.na).map λa=>((N.to a:Nat):Int))
 gates:∃A n K,ldC h o 3=Y (ω A n K)/\Sa (Rc.slice Rc.gate) F h A n K ((List.range p.length).map λj=>N.gatesL p (j+1))
 starts:∃A n K,ldC h o 4=Y (ω A n K)/\Sa aM F h A n K ((List.range p.length).map λj=>N.startsL p (j+1))
 size:ldC h o 5=Y (ξ ψ ((N.size p:Nat):Int))
 hp:aP N.nv p
 few:N.size p<=10000000
 ok:N.Ok
 nfew:N.nv<=1000/\N.na<=1000
section
variable {h h':AH}{F:Nat->Prop}{o:Nat}{N:ab}{p:List (List Int)}{Q:Value->AH->Prop}
theorem fE.keep (O:fE h F o N p) (hF:∀b,F b->b<h.next->h'.get b=h.get b) (hn:h.next<=h'.next):fE h' F o N p:=by
 have hc:∀i,ldC h' o i=ldC h o i:=λi=>bj (hF o O.own.1 O.own.2) i;refine⟨⟨O.own.1,Nat.lt_of_lt_of_le O.own.2 hn⟩,?_,?_,?_,?_,?_,(hc 5).trans O.size,O.hp,O.few,O.ok,O.nfew⟩
 .obtain⟨A,n,c,h1,h2⟩:=O.part;exact⟨A,n,c,(hc 0).trans h1,h2.keep hF hn⟩
 .obtain⟨A,n,c,h1,h2⟩:=O.from_;exact⟨A,n,c,(hc 1).trans h1,h2.keep hF hn⟩
 .obtain⟨A,n,c,h1,h2⟩:=O.to_;exact⟨A,n,c,(hc 2).trans h1,h2.keep hF hn⟩
 .obtain⟨A,n,c,h1,h2⟩:=O.gates;exact⟨A,n,c,(hc 3).trans h1,h2.keep hF hn⟩
 .obtain⟨A,n,c,h1,h2⟩:=O.starts;exact⟨A,n,c,(hc 4).trans h1,h2.keep hF hn⟩
theorem fE.nw (O:fE h F o N p) (a:Nw h h'):fE h' F o N p:=O.keep (λb _ hb=>a.get b hb) a.next
theorem fE.off (O:fE h F o N p){S:Nat->Prop}(a:Mt S h h') (hS:∀b,F b->¬S b):fE h' F o N p:=O.keep (λb hb hlt=>a.get b hlt (hS b hb)) a.next
theorem fE.gate_ (O:fE h F o N p){k c:Nat}(hk:k<p.length) (hc:c<au p (k+1)) :
  ∃b1 o1 n1 K1 b2 o2 K2 A3 K3 A4 K4,ldC h o 3=Y (ω (Y ⟨b1,o1,η⟩) n1 K1)/\k<n1/\b1<h.next/\ldC h b1 (o1+k)=Y (ω (Y ⟨b2,o2,η⟩) (au p (k+1)) K2)/\b2<h.next/\
   ldC h b2 (o2+c*2)=Y (ω A3 (N.ins p (k+1) c).length K3)/\ldC h b2 (o2+c*2+1)=Y (ω A4 (N.outs p (k+1) c).length K4)/\Sa cI F h A3 (N.ins p (k+1) c).length K3 (ints (N.ins p (k+1) c))/\Sa cI F h A4 (N.outs p (k+1) c).length K4 (ints (N.outs p (k+1) c)):=by
 obtain⟨A1,n1,K1,g1,s1⟩:=O.gates;have hn1:p.length=n1:=by have:=s1.len;simpa using this
 obtain⟨b1,o1,A2,n2,K2,x,rfl,-,l1,hx,e1,s2⟩:=s1.row (k:=k) U;have hx2:x=N.gatesL p (k+1):=by simp[hk]at hx;exact hx.symm
 subst hx2;have hn2:au p (k+1)=n2:=by have:=s2.len;simpa[ab.gatesL]using this
 subst hn2;obtain⟨b2,o2,A3,n3,K3,A4,n4,K4,x,y,rfl,-,l2,hy,e2,e3,s3,s4⟩:=s2.gate (k:=c) hc;have hy2:(x,y)=(ints (N.ins p (k+1) c),ints (N.outs p (k+1) c)):=by simp[ab.gatesL,hc]at hy;rw[<-hy.1,<-hy.2]
 injection hy2 with h1 h2;subst h1 h2;have q3:(N.ins p (k+1) c).length=n3:=by simpa[ints]using s3.len
 have q4:(N.outs p (k+1) c).length=n4:=by simpa[ints]using s4.len
 subst q3 q4;exact⟨b1,o1,n1,K1,b2,o2,K2,A3,K3,A4,K4,g1,U,l1,e1,l2,e2,e3,s3,s4⟩
theorem fE.row_ (O:fE h F o N p){k:Nat}(hk:k<p.length) :
  ∃b1 o1 n1 K1 A2 K2,ldC h o 4=Y (ω (Y ⟨b1,o1,η⟩) n1 K1)/\n1=p.length/\b1<h.next/\ldC h b1 (o1+k)=Y (ω A2 (au p (k+1)) K2)/\Sa cI F h A2 (au p (k+1)) K2 (N.startsL p (k+1)):=by
 obtain⟨A1,n1,K1,g1,s1⟩:=O.starts;have hn1:p.length=n1:=by have:=s1.len;simpa using this
 obtain⟨b1,o1,A2,n2,K2,x,rfl,-,l1,hx,e1,s2⟩:=s1.row (k:=k) U;have hx2:x=N.startsL p (k+1):=by simp[hk]at hx;exact hx.symm
 subst hx2;have hn2:au p (k+1)=n2:=by have:=s2.len;simpa[ab.startsL]using this
 subst hn2;exact⟨b1,o1,n1,K1,A2,K2,g1,hn1.symm,l1,e1,s2⟩
theorem HP {A:Option Addr}{k n K:Nat}(hs:Sa cI F h A n K (N.startsL p k)){c:Nat}(hc:c<au p k):∃b o,A=Y ⟨b,o,η⟩/\b<h.next/\ldC h b (o+c)=Y (ξ ψ ((N.start p k c:Nat):Int)):=by
 have hn:au p k=n:=by have:=hs.len;simpa[ab.startsL]using this
 obtain⟨b,o,x,rfl,-,l,hx,e⟩:=hs.int (k:=c) U;have:x=((N.start p k c:Nat):Int):=by simp[ab.startsL,hc]at hx;exact hx.symm
 subst this;exact⟨b,o,rfl,l,e⟩
theorem D1 (O:fE h F o N p) (hK:Q (ξ ψ ((N.size p:Nat):Int)) h):WC Tryz.prog 55 [ν (Y ⟨o,0,η⟩)] h Q:=nk ⟨_,_,rfl,_,O.size,hK⟩
theorem Ad (O:fE h F o N p) (hK:Q (ξ ψ (p.length:Int)) h):WC Tryz.prog 119 [ν (Y ⟨o,0,η⟩)] h Q:=by
 obtain⟨A,n,K,c0,s⟩:=O.part;have hn:p.length=n:=s.len;rw[hn]at hK;exact ky ⟨_,_,rfl,_,_,_,c0,hK⟩
theorem u9 (O:fE h F o N p){k:Nat}(hk1:1<=k) (hk:k<=p.length) (hK:Q (ξ ψ (au p k:Int)) h):WC Tryz.prog 120 [ν (Y ⟨o,0,η⟩),ξ ψ k] h Q:=by
 obtain⟨A1,n1,K1,g1,s1⟩:=O.gates;have hn1:p.length=n1:=by have:=s1.len;simpa using this
 obtain⟨j,rfl⟩:∃j,k=j+1:=⟨k - 1,U⟩;obtain⟨b1,o1,A2,n2,K2,x,rfl,-,l1,hx,e1,s2⟩:=s1.row (k:=j) U;have hlt:j<p.length:=U;have hx2:x=N.gatesL p (j+1):=by simp[hlt]at hx;exact hx.symm
 subst hx2;have hn2:au p (j+1)=n2:=by have:=s2.len;simpa[ab.gatesL]using this
 subst hn2;have hp6:=O.hp.few;refine lM ⟨λh=>absurd h U,λ_=>?_⟩;refine⟨_,_,rfl,_,_,_,g1,λh=>absurd h U,λ_=>?_⟩;exact⟨_,_,_,g1,_,ae U U,j,U,_,_,rfl,U,_,_,_,e1,hK⟩
theorem BT (O:fE h F o N p){k c:Nat}(hk1:1<=k) (hk:k<=p.length) (hc:c<au p k) (hK:Q (.bool true) h):WC Tryz.prog 133 [ν (Y ⟨o,0,η⟩),ξ ψ k,ξ ψ c] h Q:=
 oX ⟨λ_=>u9 O hk1 hk ⟨_,rfl,λ_=>hK,λh=>absurd h U⟩,λh=>absurd h U⟩
theorem yQ {A:Option Addr}{n K:Nat}{xs:List Int}(hs:Sa cI F h A n K xs) (hn:n<=100000) (hK:∀A' K' h',Sa cI (λb=>h.next<=b) h' A' n K' xs->Nw h h'->Q (ω A' n K') h'):WC Tryz.prog 203 [ω A n K] h Q:=by
 obtain⟨A',K',h',x1,x2,x3⟩:=GY hs hn (Nw.refl h) (ay.nil cI h (λb=>h.next<=b) _);exact uz ⟨A',n,K',h',x1,hK _ _ _ x2 x3⟩
theorem D4 (O:fE h F o N p){k c:Nat}(hk1:1<=k) (hk:k<=p.length) (hc:c<au p k)
  (hK:∀A K B L h',Sa cI (λb=>h.next<=b) h' A (N.ins p k c).length K (ints (N.ins p k c))->Sa cI (λb=>h.next<=b) h' B (N.outs p k c).length L (ints (N.outs p k c))->Nw h h'->Q (.agg #[ω A (N.ins p k c).length K,.slice B (N.outs p k c).length L]) h') :
  WC Tryz.prog 129 [ν (Y ⟨o,0,η⟩),ξ ψ k,ξ ψ c] h Q:=by
 obtain⟨k,rfl⟩:∃k',k=k' + 1:=⟨k - 1,U⟩;have hp6:=O.hp.few;have hna:=O.nfew.2;refine nq λh1 e1=>?_;obtain⟨k1,g1,z1⟩:=aj e1;have O1:=O.nw k1;obtain⟨b1,o1,n1,K1,b2,o2,K2,A3,K3,A4,K4,c3,hkn,l1,e2,l2,e3,e4,s3,s4⟩:=O1.gate_ (k:=k) U hc;have hi3:(N.ins p (k+1) c).length<=1000:=Nat.le_trans (aL _ _) hna;have hi4:(N.outs p (k+1) c).length<=1000:=Nat.le_trans (aL _ _) hna;obtain⟨ni,hni⟩:∃ni,(N.ins p (k+1) c).length=ni:=⟨_,rfl⟩;obtain⟨no,hno⟩:∃no,(N.outs p (k+1) c).length=no:=⟨_,rfl⟩;rw[hni]at e3 s3 hi3 hK;rw[hno]at e4 s4 hi4 hK;refine BT O1 hk1 hk hc ⟨_,rfl,λ_=>?_,λh=>Bool.noConfusion h⟩;refine⟨_,_,rfl,_,_,_,c3,_,ae U U,k,U,_,_,rfl,hkn,_,_,_,e2,c,rfl,_,_,rfl,hc,_,_,_,_,_,_,kT e3 e4,λh3 e5=>?_⟩;obtain⟨h4,hs4,k4,g4,z4⟩:=aD (vs:=[ω A3 ni K3,ω A4 no K4]) e5 rfl (cR rfl rfl);have y0:ldC h4 h1.next 0=Y (ω A3 ni K3):=aa g4 rfl;have y1:ldC h4 h1.next 1=Y (ω A4 no K4):=aa g4 rfl;refine⟨h4,hs4,_,_,_,y0,_,_,_,y1,yQ (s3.nw k4) U λA5 K5 h5 s5 k5=>⟨_,_,_,rfl,(k5.ldC U _).trans y1,(s4.eqok),?_⟩⟩;refine yQ (s4.nw (k4.trans k5)) U λA6 K6 h6 s6 k6=>⟨_,_,_,rfl,?_⟩;have hz4:h4.next=h.next+2:=U;have k6':Nw h1 h6:=(k4.trans k5).trans k6;have g6:Bk h6 h.next [ω η 0 0,ω η 0 0] 253:=k6'.bk U g1;have n5:=k5.next;have n6:=k6.next;obtain⟨h7,hs7,g7,z7,hot⟩:=dh (vs:=[ω A5 ni K5,ω A6 no K6]) g6 rfl (cR rfl rfl);refine⟨h7,hs7,_,_,_,_,_,_,bo g7 (by simp),?_⟩;have hMt:Mt (λb=>b=h.next) h6 h7:=⟨U,λb _ hb=>hot b hb⟩;refine hK _ _ _ _ _ ?_ ?_ (hMt.is_nw (k1.trans k6') (λb hb=>U))
 .exact(((s5.nw k6).off hMt (λb hb e=>U)).mono λb hb _=>U)
 .exact((s6.off hMt (λb hb e=>U)).mono λb hb _=>U)
theorem KW (O:fE h F o N p){k c i j:Nat}(hk1:1<=k) (hk:k<=p.length) (hc:c<au p k) (hi:i<(N.ins p k c).length) (hj:j<(N.outs p k c).length)
  (hK:∀h',Nw h h'->Q (ξ ψ ((N.start p k c+(i*(N.outs p k c).length+j):Nat):Int)) h'):WC Tryz.prog 59 [ν (Y ⟨o,0,η⟩),ξ ψ k,ξ ψ c,ξ ψ i,ξ ψ j] h Q:=by
 have hse:=ab.start_end (N:=N) hk1 hk hc;have hpl:=qH hi hj;have hfw:=O.few;unfold ab.sz at hse;obtain⟨k,rfl⟩:∃k',k=k' + 1:=⟨k - 1,U⟩;have hp6:=O.hp.few;obtain⟨b1,o1,n1,K1,b2,o2,K2,A3,K3,A4,K4,c3,hkn,l1,e2,l2,e3,e4,s3,s4⟩:=O.gate_ (k:=k) U hc;obtain⟨b5,o5,n5,K5,A6,K6,c4,hn5,l5,e5,s6⟩:=O.row_ (k:=k) U;obtain⟨b6,o6,rfl,l6,e6⟩:=HP s6 hc;obtain⟨ni,hni⟩:∃ni,(N.ins p (k+1) c).length=ni:=⟨_,rfl⟩;obtain⟨no,hno⟩:∃no,(N.outs p (k+1) c).length=no:=⟨_,rfl⟩;rw[hni]at e3 s3 hi hpl hse;rw[hno]at e4 s4 hj hK hpl hse;refine cC (BT O hk1 hk hc ⟨_,rfl,λ_=>?_,λh=>Bool.noConfusion h⟩);refine⟨_,_,rfl,_,_,_,c3,_,ae U U,k,U,_,_,rfl,hkn,_,_,_,e2,c,rfl,_,_,rfl,hc,_,_,_,_,_,_,kT e3 e4,λh2 e7=>?_⟩;obtain⟨h3,hs3,k3,g3,z3⟩:=aD (vs:=[ω A3 ni K3,ω A4 no K4]) e7 rfl (cR rfl rfl);have y0:ldC h3 h.next 0=Y (ω A3 ni K3):=aa g3 rfl;have y1:ldC h3 h.next 1=Y (ω A4 no K4):=aa g3 rfl;obtain⟨t,ht⟩:∃t,i*no=t:=⟨_,rfl⟩;rw[ht]at hpl hK;have w1:IntKind.i64.wrap ((i:Int)*(no:Int))=(t:Int):=by rw[<-Int.natCast_mul,ht];exact ae U U
 have w2:IntKind.i64.wrap (((N.start p (k+1) c:Nat):Int)+(t:Int))=((N.start p (k+1) c+t:Nat):Int):=by rw[Int.natCast_add];exact ae U U
 have w3:IntKind.i64.wrap (((N.start p (k+1) c+t:Nat):Int)+(j:Int))=((N.start p (k+1) c+(t+j):Nat):Int):=by rw[<-Nat.add_assoc,Int.natCast_add _ j];exact ae U U
 refine⟨h3,hs3,λh=>absurd h U,λ_=>⟨_,_,_,y0,λh=>absurd h U,λ_=>⟨λh=>absurd h U,λ_=>⟨_,_,_,y1,λh=>absurd h U,λ_=>?_⟩⟩⟩⟩;exact⟨_,_,_,(k3.ldC O.own.2 _).trans c4,_,ae U U,k,U,_,_,rfl,U,_,_,_,(k3.ldC l5 _).trans e5,_,_,rfl,hc,_,(k3.ldC l6 _).trans e6,_,_,_,y1,_,w1,_,w2,_,w3,hK _ k3⟩
end
end Eva
end
section
open Go Go.RowKit
namespace Eva
theorem va {h:AH}{b k:Nat}{xs:List Int}{x:Int}{t:TypeId}(hb:Bk h b (xs.map (Value.int .i64)) t) (hx:xs[k]? = Y x):ldC h b (0+k)=Y (ξ ψ x):=by
 rw[aJ hb,Nat.zero_add];simp[hx]
theorem da {h:AH}{b k:Nat}{xs:List Int}{t:TypeId}(hb:Bk h b (xs.map (Value.int .i64)) t) (hk:k<xs.length) (x:Int) :
  ∃h2,j0 h b (0+k) [ξ ψ x]=Y h2/\Bk h2 b ((xs.set k x).map (Value.int .i64)) t/\h2.next=h.next/\∀b',b'≠b->h2.get b' = h.get b':=by
 obtain⟨h2,h1,h3,h4,h5⟩:=ax (v:=ξ ψ x) hb (o:=0+k) (by simpa using hk) rfl;refine⟨h2,h1,?_,h4,h5⟩;rw[Nat.zero_add,<-List.map_set]at h3;exact h3
def cr (h:AH) (A:Option Addr) (n K:Nat) (xs:List Int):Prop:=
 xs.length=n/\((A=η/\n=0/\K=0)\/∃g c rest,A=Y ⟨g,0,η⟩/\g<h.next/\K=cl c/\0<c/\rest.length+n=c/\Bk h g (xs.map (Value.int .i64) ++ rest) 3)
section
variable {h h':AH}{A:Option Addr}{n K:Nat}{xs:List Int}
theorem cr.keep (o:cr h A n K xs) (hk:∀b,ai A b->b<h.next->h'.get b=h.get b) (hn:h.next<=h'.next):cr h' A n K xs:=by
 obtain⟨hl,o⟩:=o;refine⟨hl,?_⟩;rcases o with o | ⟨g,c,rest,rfl,h1,h2,h3,h4,h5⟩
 .exact .inl o
 .exact .inr ⟨g,c,rest,rfl,Nat.lt_of_lt_of_le h1 hn,h2,h3,h4,(hk g rfl h1).trans h5⟩
theorem cr.read (o:cr h A n K xs){i:Nat}{x:Int}(hx:xs[i]? = Y x):∃g,A=Y ⟨g,0,η⟩/\g<h.next/\i<n/\ldC h g (0+i)=Y (ξ ψ x):=by
 obtain⟨hl,o⟩:=o;have hi:=(List.getElem?_eq_some_iff.1 hx).1;rcases o with⟨_,h1,_⟩ | ⟨g,c,rest,rfl,h1,h2,h3,h4,h5⟩
 .omega
 .refine⟨g,rfl,h1,U,?_⟩;rw[aJ h5,Nat.zero_add,List.getElem?_append_left (by simpa using hi)];simp[hx]
theorem cr.store {g:Nat}(o:cr h (Y ⟨g,0,η⟩) n K xs){i:Nat}(hi:i<n) (x:Int):∃h1,j0 h g (0+i) [ξ ψ x]=Y h1/\cr h1 (Y ⟨g,0,η⟩) n K (xs.set i x)/\h1.next=h.next/\∀b,b≠g->h1.get b=h.get b:=by
 obtain⟨hl,o⟩:=o;rcases o with⟨h0,_,_⟩ | ⟨g',c,rest,hA,h1,h2,h3,h4,h5⟩
 .cases h0
 .injection hA with hA;injection hA with hA;subst hA;obtain⟨hh,q1,q2,q3,q4⟩:=ax (v:=ξ ψ x) h5 (o:=0+i) (by simp;omega) rfl;refine⟨hh,q1,⟨by simp[hl],.inr ⟨g,c,rest,rfl,U,h2,h3,h4,?_⟩⟩,q3,q4⟩;rw[Nat.zero_add,List.set_append_left _ _ (by simp;omega),<-List.map_set]at q2;exact q2
theorem cr.cut (o:cr h A n K xs){m:Nat}(hm:m<=n) (hA:0<n):cr h A m K (xs.take m)/\am Tryz.prog 3 A n K η (Y m) η=Y (ω A m K):=by
 obtain⟨hl,o⟩:=o;rcases o with⟨_,h1,_⟩ | ⟨g,c,rest,rfl,h1,h2,h3,h4,h5⟩
 .omega
 .refine⟨⟨by simp;omega,.inr ⟨g,c,(xs.drop m).map (Value.int .i64) ++ rest,rfl,h1,h2,h3,by simp;omega,?_⟩⟩,?_⟩
  .rw[<-List.append_assoc,<-List.map_append,List.take_append_drop];exact h5
  .obtain⟨i,hi,hsz⟩:∃i,Tryz.prog.info? 3=Y i/\i.size=1:=by
    obtain⟨i,q1,q2,-⟩:=bg dR;exact⟨i,q1,q2⟩
   unfold am;rw[hi];have hc2:K / 2=c:=by rw[h2];unfold cl;omega
   have hp:Nat.beq (K % 2) 0=false:=by
    have:K % 2=1:=by rw[h2];unfold cl;omega
    rw[this];rfl
   have hb1:Nat.ble m (K / 2)=true:=Nat.ble_eq_true_of_le U;have hb0:Nat.ble 0 m=true:=Nat.ble_eq_true_of_le (Nat.zero_le _);have hlt:Nat.blt 0 (K / 2)=true:=Nat.ble_eq_true_of_le U;show cond (Option.isNone (none:Option Nat) || Option.isSome (Y m)) (bS i.size (Y ⟨g,0,η⟩) n K ((none:Option Nat).getD 0) (Y m) η) η=_;simp only[Option.isNone_none,Bool.true_or,cond_true,Option.getD_none];unfold bS;simp only[Option.getD_some,hb1,hb0,Bool.and_self,cond_true,hp,cond_false];unfold mP;rw[hlt];simp only[cond_true,Nat.sub_zero,Nat.zero_mul,Option.map_some];rw[hc2,h2];rfl
theorem cr.app (o:cr h A n K xs){B L:Nat}{x:Int}(hB:ldC h B 0=Y (ξ ψ x)) (hn:n<100000) :
  ∃A' K' h1,ah Tryz.prog h (Y (.slice 3)) (Y (.slice 3)) (ω A n K) (ω (Y ⟨B,0,η⟩) 1 L)=Y (ω A' (n+1) K',h1)/\cr h1 A' (n+1) K' (xs ++ [x])/\h.next<=h1.next/\(∀b,b<h.next->¬ai A b->h1.get b=h.get b)/\(∀b,ai A' b->ai A b\/(h.next<=b/\b<h1.next)):=by
 obtain⟨hl,o⟩:=o;have hap:=fX (P:=Tryz.prog) (h:=h) (e:=3) (size:=1) (bytes:=8) (A:=A) (K:=K) (L:=L) (B:=Y ⟨B,0,η⟩) (n:=n) (m:=1) (cells:=[ξ ψ x]) dR rfl (by simp[flat]) (λ_=>⟨B,0,rfl,λj u hj=>by
  match j,hj with
  | 0,hj=>injection hj with hj;subst hj;exact hB⟩) U U
 rcases o with⟨rfl,rfl,rfl⟩ | ⟨g,c,rest,rfl,h1,h2,h3,h4,h5⟩
 .have hxs:xs = []:=List.eq_nil_of_length_eq_zero hl;subst hxs;obtain⟨k1,k2,k3⟩:=aj (h:=h) (ao:=.cells [ξ ψ x] 3 false) rfl;refine⟨Y ⟨h.next,0,η⟩,cl 1,_,hap,⟨rfl,.inr ⟨h.next,1,[],rfl,by rw[k3];omega,rfl,U,rfl,k2⟩⟩,k1.next,λb hb _=>k1.get b hb,λb hb=>.inr ?_⟩;have:b=h.next:=hb;rw[k3];omega
 .by_cases hroom:n+1<=c
  .have hble:Nat.ble (n+1) (K / 2)=true:=Nat.ble_eq_true_of_le (by rw[h2];unfold cl;omega);rw[hble]at hap;simp only[cond_true]at hap;obtain⟨hh,q1,q2,q3,q4⟩:=ax (v:=ξ ψ x) h5 (o:=n) (by simp;omega) rfl;have hadd:(⟨g,0,η⟩:Addr).add (n*1)=⟨g,n,η⟩:=by
    rw[Nat.mul_one];unfold Addr.add
    split
    .rename_i h0;subst h0;rfl
    .simp
   have hst:bM h ((⟨g,0,η⟩:Addr).add (n*1)) [ξ ψ x]=Y hh:=by rw[hadd];exact q1
   refine⟨Y ⟨g,0,η⟩,K,hh,?_,⟨by simp[hl],.inr ⟨g,c,rest.drop 1,rfl,U,h2,h3,by simp;omega,?_⟩⟩,U,λb hb hne=>q4 b (λe=>hne e),λb hb=>.inl hb⟩
   .rw[hap];unfold ly;simp only[show Nat.beq 1 0=false from rfl,cond_false,hst]
   .obtain⟨r0,rs,hr⟩:∃r0 rs,rest=r0 :: rs:=by
     cases hrest:rest with
     | nil=>rw[hrest]at h4;simp at h4;omega
     | cons a l=>exact⟨a,l,rfl⟩
    subst hr;rw[List.set_append_right _ _ (by simp;omega)]at q2;have hz:n - (xs.map (Value.int .i64)).length=0:=by simp;omega
    rw[hz]at q2;simpa using q2
  .have hnc:n=c:=U;have hnle:Nat.ble (n+1) (K / 2)=false:=by
    cases hb:Nat.ble (n+1) (K / 2) with
    | false=>rfl
    | true=>have:=Nat.le_of_ble_eq_true hb;rw[h2]at this;unfold cl at this;omega
   rw[hnle]at hap;simp only[cond_false]at hap;have hrest:rest = []:=List.eq_nil_of_length_eq_zero U;subst hrest;rw[List.append_nil]at h5;have hcell:a8 h g=Y (xs.map (Value.int .i64),3,false):=by unfold a8;rw[h5]
   have hcut:pI (xs.map (Value.int .i64)) 0 (n*1)=Y (xs.map (Value.int .i64)):=by
    rw[uX (by simp;omega)];rw[List.drop_zero,List.take_of_length_le (by simp;omega)]
   have hp:Nat.beq (K % 2) 0=false:=by
    have:K % 2=1:=by rw[h2];unfold cl;omega
    rw[this];rfl
   have hout:fZ h 3 1 (Y ⟨g,0,η⟩) n K 1 [ξ ψ x]=Y (oV (n+1) (cl (n+1)) h.next,(h.del g).new (.cells (xs.map (Value.int .i64) ++ [ξ ψ x]) 3 false)):=by
    unfold fZ;simp only[hcell,hcut,hp,cond_false,Nat.beq_refl,Bool.not_false,Bool.and_self,cond_true]
   rw[hout]at hap;refine⟨Y ⟨h.next,0,η⟩,cl (n+1),_,hap,⟨by simp[hl],.inr ⟨h.next,n+1,[],rfl,by rw[gP,jn];omega,rfl,U,by simp,?_⟩⟩,by rw[gP,jn];omega,λb hb hne=>?_,λb hb=>.inr ?_⟩
   .rw[Bk,get_new,jn,if_pos rfl];simp
   .have hbg:b≠g:=λe=>hne e;rw[get_new,jn,if_neg U,get_del,if_neg hbg]
   .have:b=h.next:=hb;rw[gP,jn];omega
end
structure bE (h:AH) (S:Nat->Prop) (hp N:Nat) (row:List Nat) (costs:List Int) (A:Option Addr) (K Bc Bs:Nat) (seats:List Int):Prop where
 blk:Bk h hp [ω A row.length K,ω (Y ⟨Bc,0,η⟩) N (cx N),ω (Y ⟨Bs,0,η⟩) N (cx N)] 302
 bc:Bk h Bc (costs.map (Value.int .i64)) 2
 bs:Bk h Bs (seats.map (Value.int .i64)) 3
 own:cr h A row.length K (eE row)
 lt3:hp<h.next/\Bc<h.next/\Bs<h.next
 inS:S hp/\S Bc/\S Bs
 ne:hp≠Bc/\hp≠Bs/\Bc≠Bs
 far:∀g,ai A g->S g/\g≠hp/\g≠Bc/\g≠Bs
 cl:costs.length=N
 nN:N<=16384
 lt:∀k∈row,k<N
 nodup:row.Nodup
 cbd:∀c∈costs,0<=c/\c<=1152921504606846976
 seat:iv N row seats
section
variable {h h':AH}{S:Nat->Prop}{hp N:Nat}{row:List Nat}{costs:List Int}{A:Option Addr}{K Bc Bs:Nat}{seats:List Int}{Q:Value->AH->Prop}
theorem bE.few (H:bE h S hp N row costs A K Bc Bs seats):row.length<=N:=jJ H.nodup H.lt
theorem bE.keep (H:bE h S hp N row costs A K Bc Bs seats) (hk:∀b,S b->b<h.next->h'.get b=h.get b) (hn:h.next<=h'.next):bE h' S hp N row costs A K Bc Bs seats:=
 ⟨(hk _ H.inS.1 H.lt3.1).trans H.blk,(hk _ H.inS.2.1 H.lt3.2.1).trans H.bc,(hk _ H.inS.2.2 H.lt3.2.2).trans H.bs,H.own.keep (λb hb hlt=>hk b (H.far b hb).1 hlt) hn,
  ⟨Nat.lt_of_lt_of_le H.lt3.1 hn,Nat.lt_of_lt_of_le H.lt3.2.1 hn,Nat.lt_of_lt_of_le H.lt3.2.2 hn⟩,H.inS,H.ne,H.far,H.cl,H.nN,H.lt,H.nodup,H.cbd,H.seat⟩
theorem bE.cost (H:bE h S hp N row costs A K Bc Bs seats){k:Nat}(hk:k<N):∃c,costs[k]? = Y c/\ldC h Bc (0+k)=Y (ξ ψ c)/\0<=c/\c<=1152921504606846976:=by
 have hl:k<costs.length:=by rw[H.cl];exact hk
 have h1:costs[k]? = Y costs[k]:=List.getElem?_eq_getElem hl;exact⟨costs[k],h1,va H.bc h1,H.cbd _ (List.getElem_mem hl)⟩
theorem bE.seatAt (H:bE h S hp N row costs A K Bc Bs seats){k:Nat}(hk:k<N):∃s,seats[k]? = Y s/\ldC h Bs (0+k)=Y (ξ ψ s):=by
 have hl:k<seats.length:=by rw[H.seat.1];exact hk
 have h1:seats[k]? = Y seats[k]:=List.getElem?_eq_getElem hl;exact⟨seats[k],h1,va H.bs h1⟩
theorem bE.c0 (H:bE h S hp N row costs A K Bc Bs seats):ldC h hp 0=Y (ω A row.length K):=aa H.blk rfl
theorem bE.c1 (H:bE h S hp N row costs A K Bc Bs seats):ldC h hp 1=Y (ω (Y ⟨Bc,0,η⟩) N (cx N)):=aa H.blk rfl
theorem bE.c2 (H:bE h S hp N row costs A K Bc Bs seats):ldC h hp 2=Y (ω (Y ⟨Bs,0,η⟩) N (cx N)):=aa H.blk rfl
theorem KX (H:bE h S hp N row costs A K Bc Bs seats){k:Nat}(hk:k<N) (hK:Q (.bool true) h):WC Tryz.prog 158 [ν (Y ⟨hp,0,η⟩),ξ ψ k] h Q:=
 pc ⟨λ_=>⟨_,_,rfl,_,_,_,H.c2,λ_=>hK,λh=>absurd h U⟩,λh=>absurd h U⟩
theorem D6 {i j a b:Nat}(H:bE h S hp N row costs A K Bc Bs seats) (hi:row[i]? = Y a) (hj:row[j]? = Y b) (hK:Q (.bool (kP costs a b)) h):WC Tryz.prog 221 [ν (Y ⟨hp,0,η⟩),ξ ψ i,ξ ψ j] h Q:=by
 obtain⟨g,rfl,hg,hil,e0⟩:=H.own.read (dt hi);obtain⟨g',hA,-,hjl,f0⟩:=H.own.read (dt hj);injection hA with hA;injection hA with hA;subst hA;have ha:=H.lt a (List.mem_of_getElem? hi);have hb:=H.lt b (List.mem_of_getElem? hj);obtain⟨x,hx,x0,-,-⟩:=H.cost ha;obtain⟨y,hy,y0,-,-⟩:=H.cost hb;have hq:kP costs a b=decide (x<y\/(x=y/\a<b)):=by simp[kP,List.getD_eq_getElem?_getD,hx,hy]
 rw[hq]at hK;refine lO ⟨_,_,rfl,_,_,_,H.c0,_,rfl,_,_,rfl,hil,_,e0,_,_,_,H.c0,_,rfl,_,_,rfl,hjl,_,f0,_,_,_,H.c1,_,rfl,_,_,rfl,ha,_,x0,_,_,_,H.c1,_,rfl,_,_,rfl,hb,_,y0,λhxy=>⟨λhab=>?_,λhab=>?_⟩,λhxy=>⟨_,_,_,H.c1,_,_,rfl,ha,_,x0,_,_,_,H.c1,_,_,rfl,hb,_,y0,λhlt=>?_,λhlt=>?_⟩⟩
 .rwa [decide_eq_true (.inr ⟨hxy,U⟩)]at hK
 .rwa [decide_eq_false U]at hK
 .rwa [decide_eq_true (.inl hlt)]at hK
 .rwa [decide_eq_false U]at hK
theorem D7 {i j a b:Nat}(H:bE h S hp N row costs A K Bc Bs seats) (hi:row[i]? = Y a) (hj:row[j]? = Y b)
  (hK:∀h',bE h' S hp N (rr row i j) costs A K Bc Bs ((seats.set b ((i:Int)+1)).set a ((j:Int)+1))->Mt S h h'->h'.next=h.next->Q (.tuple #[]) h'):WC Tryz.prog 160 [ν (Y ⟨hp,0,η⟩),ξ ψ i,ξ ψ j] h Q:=by
 obtain⟨g,rfl,hg,hil,e0⟩:=H.own.read (dt hi);obtain⟨g',hA,-,hjl,f0⟩:=H.own.read (dt hj);injection hA with hA;injection hA with hA;subst hA;have ha:=H.lt a (List.mem_of_getElem? hi);have hb:=H.lt b (List.mem_of_getElem? hj);have hN:=H.nN;have hfw:=H.few;obtain⟨hgS,gn1,gn2,gn3⟩:=H.far g rfl;obtain⟨n1,n2,n3⟩:=H.ne;obtain⟨h1,s1,o1,z1,k1⟩:=H.own.store hil (b:Int);obtain⟨h2,s2,o2,z2,k2⟩:=o1.store hjl (a:Int);have b2:∀c,c≠g->h2.get c=h.get c:=λc hc=>(k2 c hc).trans (k1 c hc);have y2:ldC h2 hp 2=Y (ω (Y ⟨Bs,0,η⟩) N (cx N)):=(bj (b2 hp (Ne.symm gn1)) _).trans H.c2;have y0:ldC h2 hp 0=Y (ω (Y ⟨g,0,η⟩) row.length K):=(bj (b2 hp (Ne.symm gn1)) _).trans H.c0;have hrow:((eE row).set i (b:Int)).set j (a:Int)=eE (rr row i j):=by
  rw[sV,sV,rr];simp[List.getD_eq_getElem?_getD,hi,hj]
 rw[hrow]at o2;have hsw:=λx=>dO hil hjl x;have hnewi:(rr row i j)[i]? = Y b:=by rw[hsw,if_pos rfl,hj]
 have hnewj:(rr row i j)[j]? = Y a:=by
  rw[hsw];by_cases e:j=i
  .subst e;rw[if_pos rfl];exact hi
  .rw[if_neg e,if_pos rfl,hi]
 obtain⟨q,hq,-,-,x0⟩:=o2.read (dt hnewi);injection hq with hq;injection hq with hq;subst hq;have bs2:Bk h2 Bs (seats.map (Value.int .i64)) 3:=(b2 Bs (Ne.symm gn3)).trans H.bs;have hsl:=H.seat.1;obtain⟨h3,s3,c3,z3,k3⟩:=da bs2 (k:=b) U ((i:Int)+1);have o3:cr h3 (Y ⟨g,0,η⟩) row.length K (eE (rr row i j)):=o2.keep (λc hc _=>k3 c (by have:c=g:=hc;omega)) U;obtain⟨q,hq,-,-,x1⟩:=o3.read (dt hnewj);injection hq with hq;injection hq with hq;subst hq;have y2':ldC h3 hp 2=Y (ω (Y ⟨Bs,0,η⟩) N (cx N)):=(bj (k3 hp n2) _).trans y2;have y0':ldC h3 hp 0=Y (ω (Y ⟨g,0,η⟩) row.length K):=(bj (k3 hp n2) _).trans y0;obtain⟨h4,s4,c4,z4,k4⟩:=da c3 (k:=a) (by rw[List.length_set];omega) ((j:Int)+1);have oth:∀c,c≠g->c≠Bs->h4.get c=h.get c:=λc h1 h2=>((k4 c h2).trans (k3 c h2)).trans (b2 c h1);have hl9:(rr row i j).length=row.length:=jK _ _ _;refine nE ⟨_,_,rfl,_,_,_,H.c0,_,_,_,H.c0,_,_,_,H.c0,_,rfl,_,_,rfl,hjl,_,f0,_,_,_,H.c0,_,rfl,_,_,rfl,hil,_,e0,_,_,rfl,hil,h1,s1,_,_,rfl,hjl,h2,s2,_,_,_,y2,_,_,_,y0,_,_,rfl,hil,_,x0,_,ae U U,_,rfl,_,_,rfl,hb,h3,s3,_,_,_,y2',_,_,_,y0',_,_,rfl,hjl,_,x1,_,ae U U,_,rfl,_,_,rfl,ha,h4,s4,?_⟩;refine hK h4 ⟨?_,(oth Bc (Ne.symm gn2) n3).trans H.bc,c4,?_,⟨by have:=H.lt3;omega,by have:=H.lt3;omega,by have:=H.lt3;omega⟩,H.inS,H.ne,H.far,H.cl,H.nN,λk hk=>H.lt k ((lY hil hjl k).1 hk),BJ hil hjl H.nodup,H.cbd,DP H.seat H.nodup H.lt hi hj⟩ ⟨U,λc _ hc=>oth c (λe=>hc (e ▸ hgS)) (λe=>hc (e ▸ H.inS.2.2))⟩ U
 .rw[hl9];exact(oth hp (Ne.symm gn1) n2).trans H.blk
 .rw[hl9];exact o3.keep (λc hc _=>k4 c (by have:c=g:=hc;omega)) U
end
end Eva
end
section
open Go Go.RowKit
namespace Eva
section
variable {h h':AH}{S:Nat->Prop}{hp N:Nat}{row:List Nat}{costs:List Int}{A:Option Addr}{K Bc Bs:Nat}{seats:List Int}{Q:Value->AH->Prop}
theorem Je {k:Nat}(hk:0<k) (hk2:k<=100000):IntKind.i64.wrap ((k:Int) - 1)=(k:Int) - 1/\IntKind.i64.wrap (Int.tdiv ((k:Int) - 1) 2)=(((k - 1) / 2:Nat):Int):=by
 have:Int.tdiv ((k:Int) - 1) 2=(((k - 1) / 2:Nat):Int):=by
  rw[Int.tdiv_eq_ediv_of_nonneg U];omega
 exact⟨ae U U,by rw[this];exact ae U U⟩
theorem Mm {i:Nat}(H:bE h S hp N row costs A K Bc Bs seats) (hi:i<row.length) (hu:E3 (kQ costs) (rt row) row.length i)
  (hK:∀h' row' seats',bE h' S hp N row' costs A K Bc Bs seats'->row'.length=row.length->(∀k,k∈row'↔k∈row)->eO (kQ costs) (rt row') row'.length->Mt S h h'->h'.next=h.next->Q (.tuple #[]) h') :
  WC Tryz.prog 159 [ν (Y ⟨hp,0,η⟩),ξ ψ i] h Q:=by
 have hN:=H.nN;have hf:=H.few;refine qp ⟨λm x h1=>∃(k:Nat) (row':List Nat) (seats':List Int),x=k/\m=k/\k<row.length/\bE h1 S hp N row' costs A K Bc Bs seats'/\row'.length=row.length/\(∀k,k∈row'↔k∈row)/\E3 (kQ costs) (rt row') row'.length k/\Mt S h h1/\h1.next=h.next,i,⟨i,row,seats,rfl,rfl,hi,H,rfl,λ_=>Iff.rfl,hu,Mt.refl _ _,rfl⟩,?_⟩;rintro m x h1 ⟨k,row',seats',rfl,hmk,hk,H1,hl,hm,hu,hmt,hz⟩;subst m;refine⟨λhk0=>?_,λhk0=>?_⟩
 .obtain⟨w1,w2⟩:=Je (k:=k) U U;obtain⟨p,hpp⟩:∃p,(k - 1) / 2=p:=⟨_,rfl⟩;rw[hpp]at w2;have hpk:p<k:=U;obtain⟨a,ha⟩:∃a,row'[k]? = Y a:=⟨_,List.getElem?_eq_getElem U⟩;obtain⟨b,hb⟩:∃b,row'[p]? = Y b:=⟨_,List.getElem?_eq_getElem U⟩;refine⟨_,w1,_,w2,D6 H1 ha hb ⟨_,rfl,λht=>⟨_,w1,_,w2,D7 H1 ha hb λh2 H2 m2 z2=>⟨rfl,_,w1,_,w2,p,hpk,p,_,_,rfl,rfl,U,H2,?_,λx=>?_,?_,hmt.then m2,U⟩⟩,λht=>?_⟩⟩
  .rw[jK];exact hl
  .rw[lY U U];exact hm x
  .rw[yN U U,jK,<-hpp];refine hu.step U U ?_;rw[hpp,cJ ha,cJ hb];exact sW ht
  .refine hK h1 row' seats' H1 hl hm (hu.done (.inr ?_)) hmt hz;rw[hpp,cJ ha,cJ hb];exact wL ht
 .exact hK h1 row' seats' H1 hl hm (hu.done (.inl U)) hmt hz
theorem Jf (H:bE h S hp N row costs A K Bc Bs seats) (hu:gL (kQ costs) (rt row) row.length 0)
  (hK:∀h' row' seats',bE h' S hp N row' costs A K Bc Bs seats'->row'.length=row.length->(∀k,k∈row'↔k∈row)->eO (kQ costs) (rt row') row'.length->Mt S h h'->h'.next=h.next->Q (.tuple #[]) h') :
  WC Tryz.prog 161 [ν (Y ⟨hp,0,η⟩),ξ ψ 0] h Q:=by
 have hN:=H.nN;have hf:=H.few;refine nz ⟨λm x h1=>∃(k:Nat) (row':List Nat) (seats':List Int),x=k/\m=row.length - k/\(k<row.length\/k=0)/\bE h1 S hp N row' costs A K Bc Bs seats'/\row'.length=row.length/\(∀k,k∈row'↔k∈row)/\gL (kQ costs) (rt row') row'.length k/\Mt S h h1/\h1.next=h.next,row.length,⟨0,row,seats,rfl,rfl,.inr rfl,H,rfl,λ_=>Iff.rfl,hu,Mt.refl _ _,rfl⟩,?_⟩;rintro m x h1 ⟨k,row',seats',rfl,rfl,hk,H1,hl,hm,hu,hmt,hz⟩;have hk9:k<=16384:=by rcases hk with h | h <;>omega
 have w0:IntKind.i64.wrap (2*(k:Int))=2*(k:Int):=ae U U;have w1:IntKind.i64.wrap (2*(k:Int)+1)=((2*k+1:Nat):Int):=by rw[show(2*(k:Int)+1)=((2*k+1:Nat):Int) by omega];exact ae U U
 have w2:IntKind.i64.wrap (2*(k:Int)+2)=2*(k:Int)+2:=ae U U;refine⟨_,w0,_,w1,λm x y h2=>∃(q j:Nat),x=q/\y=j/\m=2*k+3 - j/\2*k+1<=j/\j<=2*k+3/\ee (kQ costs) (rt row') row'.length k j q/\h2=h1,2,⟨k,2*k+1,rfl,rfl,U,U,U,ee.start _ _ _ _,rfl⟩,?_⟩;rintro m x y h2 ⟨q,j,rfl,rfl,rfl,hj1,hj2,hL,rfl⟩;have fin:(2*k+2<j\/row'.length<=j)->(((q:Nat):Int)=(k:Int)->Q (.tuple #[]) h2)/\(¬(((q:Nat):Int)=(k:Int))->WC Tryz.prog 160 [ν (Y ⟨hp,0,η⟩),ξ ψ (k:Int),ξ ψ (q:Int)] h2 (λv2 h4=>v2 = .tuple #[]/\∃m':Nat,m' < row.length - k/\∃(k':Nat) (row'':List Nat) (seats'':List Int),((q:Nat):Int)=k'/\m' = row.length - k'/\(k' < row.length\/k' = 0)/\bE h4 S hp N row'' costs A K Bc Bs seats''/\row''.length=row.length/\(∀k,k∈row''↔k∈row)/\gL (kQ costs) (rt row'') row''.length k'/\Mt S h h4/\h4.next=h.next)):=by
  intro hend;have hkids:∀x,0<x->x<row'.length->(x - 1) / 2=k->jI (kQ costs) (rt row' q) (rt row' x):=λx h0 hx hxk=>hL.kid x U U hx;refine⟨λe=>?_,λe=>?_⟩
  .have:q=k:=U;subst this;exact hK h2 row' seats' H1 hl hm (hu.done hkids) hmt hz
  .rcases hL.who with e' | ⟨e1,e2,e3,e4⟩
   .exact absurd e' U
   .obtain⟨a,ha⟩:∃a,row'[k]? = Y a:=⟨_,List.getElem?_eq_getElem U⟩;obtain⟨b,hb⟩:∃b,row'[q]? = Y b:=⟨_,List.getElem?_eq_getElem e4⟩;refine D7 H1 ha hb λh4 H4 m4 z4=>⟨rfl,row.length - q,U,q,_,_,rfl,rfl,.inl U,H4,by rw[jK];exact hl,λx=>by rw[lY U U];exact hm x,?_,hmt.then m4,U⟩;rw[yN U U,jK];exact hu.step U U e4 hL.own hkids
 have c0:=H1.c0;rw[hl]at c0;refine⟨_,w0,_,w2,λhc=>⟨_,_,rfl,_,_,_,c0,λhjn=>?_,λhjn=>fin (.inr U)⟩,λhc=>fin (.inl U)⟩;obtain⟨a,ha⟩:∃a,row'[j]? = Y a:=⟨_,List.getElem?_eq_getElem U⟩;have hq:q<row'.length:=by
  rcases hL.who with e | e
  .omega
  .exact e.2.2.2
 obtain⟨b,hb⟩:∃b,row'[q]? = Y b:=⟨_,List.getElem?_eq_getElem hq⟩;have wj:IntKind.i64.wrap ((j:Int)+1)=((j+1:Nat):Int):=by rw[Int.natCast_add];exact ae U U
 refine D6 H1 ha hb ⟨_,rfl,λht=>⟨_,wj,2*k+3 - (j+1),U,j,j+1,rfl,rfl,rfl,U,U,hL.yes hj1 U U ?_,rfl⟩,λht=>⟨_,wj,2*k+3 - (j+1),U,q,j+1,rfl,rfl,rfl,U,U,hL.no ?_,rfl⟩⟩
 .rw[cJ ha,cJ hb];exact sW ht
 .rw[cJ ha,cJ hb];exact wL ht
def bF (h:AH) (S:Nat->Prop) (hp N:Nat) (q:Nat->Option Nat):Prop:=
 ∃row costs A K Bc Bs seats,bE h S hp N row costs A K Bc Bs seats/\eO (kQ costs) (rt row) row.length/\DQ row costs q/\∀b,S b->b<h.next
theorem bF.keep {q:Nat->Option Nat}(H:bF h S hp N q) (hk:∀b,S b->b<h.next->h'.get b=h.get b) (hn:h.next<=h'.next):bF h' S hp N q:=by
 obtain⟨row,costs,A,K,Bc,Bs,seats,h1,h2,h3,h4⟩:=H;exact⟨row,costs,A,K,Bc,Bs,seats,h1.keep hk hn,h2,h3,λb hb=>Nat.lt_of_lt_of_le (h4 b hb) hn⟩
theorem bF.nw {q:Nat->Option Nat}(H:bF h S hp N q) (a:Nw h h'):bF h' S hp N q:=H.keep (λb _ hb=>a.get b hb) a.next
theorem bF.off {q:Nat->Option Nat}(H:bF h S hp N q){S':Nat->Prop}(a:Mt S' h h') (hS:∀b,S b->¬S' b):bF h' S hp N q:=H.keep (λb hb hlt=>a.get b hlt (hS b hb)) a.next
theorem Jg (n:Nat) (hn:n<=16384) (hK:∀h' S' hp,bF h' S' hp n (λ_=>η)->Nw h h'->(∀b,S' b->h.next<=b)->Q (ν (Y ⟨hp,0,η⟩)) h'):WC Tryz.prog 89 [ξ ψ n] h Q:=by
 refine yx ⟨n,by rw[if_neg U],n,by rw[if_neg U],n,rfl,U,λh1 e1=>⟨U,λh2 e2 h3 e3=>?_⟩⟩;obtain⟨k1,g1,z1⟩:=aj e1;obtain⟨k2,g2,z2⟩:=aj e2;obtain⟨k3,g3,z3⟩:=aj e3;have hrep:dD n [Value.int .i64 0]=(List.replicate n (0:Int)).map (Value.int .i64):=by rw[aQ,List.map_replicate]
 rw[hrep]at g1 g2;refine hK h3 (λb=>b=h.next\/b=h1.next\/b=h2.next) h2.next ⟨[],List.replicate n 0,η,0,h.next,h1.next,List.replicate n 0,⟨g3,k3.bk U (k2.bk U g1),k3.bk U g2,⟨rfl,.inl ⟨rfl,rfl,rfl⟩⟩,⟨U,U,U⟩,⟨.inr (.inr rfl),.inl rfl,.inr (.inl rfl)⟩,⟨U,U,U⟩,(λg hg=>hg.elim),by simp,hn,by simp,by simp,λc hc=>?_,by simp,λk hk=>.inr ⟨by simp,by simp[hk]⟩⟩,λj h1 h2=>by simp at h2,λk=>by simp,λb hb=>by rcases hb with hb | hb | hb <;>omega⟩ ((k1.trans k2).trans k3) (λb hb=>by rcases hb with hb | hb | hb <;>omega);have:=List.eq_of_mem_replicate hc;omega
theorem fSq {q:Nat->Option Nat}{k:Nat}{c:Int}(H:bF h S hp N q) (hk:k<N) (hc0:0<=c) (hc1:c<=1152921504606846976)
  (hK:∀h' S',bF h' S' hp N (iS q k c.toNat)->Mt S h h'->(∀b,S' b->S b\/(h.next<=b/\b<h'.next))->Q (.bool (fU q k c.toNat)) h'):WC Tryz.prog 90 [ν (Y ⟨hp,0,η⟩),ξ ψ k,ξ ψ c] h Q:=by
 obtain⟨row,costs,A,K,Bc,Bs,seats,H1,HR,HQ,HS⟩:=H;have hN:=H1.nN;have hf:=H1.few;have hcl:=H1.cl;have hsl:=H1.seat.1;obtain⟨x,hx,x0,hx0,hx1⟩:=H1.cost hk;obtain⟨s,hs,s0⟩:=H1.seatAt hk;have hxc:kQ costs k=x:=by simp[kQ,List.getD_eq_getElem?_getD,hx]
 refine oY (KX H1 hk ⟨_,rfl,λ_=>?_,λh=>Bool.noConfusion h⟩);refine Ac c ⟨_,rfl,?_⟩;rw[dP hc0 hc1];refine⟨λh3=>∃(row1:List Nat) (A1:Option Addr) (K1:Nat) (seats1:List Int) (S1:Nat->Prop) (p:Nat),bE h3 S1 hp N row1 costs A1 K1 Bc Bs seats1/\row1[p]? = Y k/\seats1[k]? = Y ((p:Int)+1)/\E3 (kQ (costs.set k c)) (rt row1) row1.length p/\Mt S h h3/\(∀b,S1 b->S b\/(h.next<=b/\b<h3.next))/\
  (∀row2,(∀y,y∈row2↔y∈row1)->DQ row2 (costs.set k c) (iS q k c.toNat)/\fU q k c.toNat=true),?_,?_⟩
 .rintro h3 ⟨row1,A1,K1,seats1,S1,p,H3,hp1,hs1,hu,hmt,hS1,hQ⟩;obtain⟨h4,q1,q2,q3,q4⟩:=da H3.bc (k:=k) U c;have n3:=H3.ne;have H4:bE h4 S1 hp N row1 (costs.set k c) A1 K1 Bc Bs seats1:=⟨(q4 hp n3.1).trans H3.blk,q2,(q4 Bs (Ne.symm n3.2.2)).trans H3.bs,H3.own.keep (λb hb _=>q4 b (H3.far b hb).2.2.1) U,⟨by have:=H3.lt3;omega,by have:=H3.lt3;omega,by have:=H3.lt3;omega⟩,H3.inS,H3.ne,H3.far,by rw[List.length_set];exact hcl,hN,H3.lt,H3.nodup,λy hy=>by
   rcases List.mem_or_eq_of_mem_set hy with hy | rfl
   .exact H3.cbd y hy
   .exact⟨hc0,hc1⟩,H3.seat⟩
  have hpl:=(List.getElem?_eq_some_iff.1 hp1).1;refine⟨_,_,rfl,_,_,_,H3.c1,_,rfl,_,_,rfl,hk,h4,q1,_,_,_,H4.c2,_,_,rfl,hk,_,va H4.bs hs1,_,ae (by have:=H3.few;omega) (by have:=H3.few;omega),?_⟩;rw[show((p:Int)+1 - 1)=(p:Int) by omega];refine Mm H4 hpl hu λh5 row2 seats2 H5 l5 m5 r5 mt5 z5=>⟨rfl,?_⟩;obtain⟨g1,g2⟩:=hQ row2 m5;have hmt5:Mt S h h5:=(hmt.trans (S':=S1) ⟨U,λb _ hb=>q4 b (λe=>hb (e ▸ H3.inS.2.1))⟩ (λb hb hlt=>(hS1 b hb).elim id (λh=>U))).trans mt5 (λb hb hlt=>(hS1 b hb).elim id (λh=>U));have:=hK h5 S1 ⟨row2,costs.set k c,A1,K1,Bc,Bs,seats2,H5,r5,g1,λb hb=>by
   rcases hS1 b hb with h1 | h1
   .have:=HS b h1;have:=hmt5.next;omega
   .omega⟩ hmt5 (λb hb=>(hS1 b hb).imp id λh=>⟨h.1,U⟩)
  rwa [g2]at this
 .refine⟨_,_,rfl,_,_,_,H1.c2,_,rfl,_,_,rfl,hk,_,s0,λhz=>?_,λhz=>?_⟩
  ·
   have hnm:k ∉ row:=by
    rcases H1.seat.2 k hk with⟨p,hp1,hp2⟩ | ⟨hn,_⟩
    .rw[hs]at hp2;injection hp2 with hp2;omega
    .exact hn
   refine⟨_,_,_,H1.c0,λh6 e6=>?_⟩;obtain⟨k6,g6,z6⟩:=aj e6;have o6:cr h6 A row.length K (eE row):=H1.own.keep (λb _ hb=>k6.get b hb) k6.next;obtain⟨A9,K9,h7,a1,a2,a3,a4,a5⟩:=o6.app (B:=h.next) (L:=2) (x:=(k:Int)) (aa g6 rfl) U;have l3:=H1.lt3;have n3:=H1.ne;have far6:∀b,ai A b->b≠hp/\b≠Bc/\b≠Bs:=λb hb=>(H1.far b hb).2;have k7:∀b,b<h.next->¬ai A b->h7.get b=h.get b:=λb hb hne=>(a4 b U hne).trans (k6.get b hb);have blk7:Bk h7 hp [ω A row.length K,ω (Y ⟨Bc,0,η⟩) N (cx N),ω (Y ⟨Bs,0,η⟩) N (cx N)] 302:=(k7 hp l3.1 (λhh=>(far6 _ hh).1 rfl)).trans H1.blk;have bc7:Bk h7 Bc (costs.map (Value.int .i64)) 2:=(k7 Bc l3.2.1 (λhh=>(far6 _ hh).2.1 rfl)).trans H1.bc;have bs7:Bk h7 Bs (seats.map (Value.int .i64)) 3:=(k7 Bs l3.2.2 (λhh=>(far6 _ hh).2.2 rfl)).trans H1.bs;have new9:∀b,ai A9 b->(S b\/(h.next<=b/\b<h7.next))/\b≠hp/\b≠Bc/\b≠Bs:=λb hb=>by
    rcases a5 b hb with h1 | h1
    .exact⟨.inl (H1.far b h1).1,far6 b h1⟩
    .exact⟨.inr ⟨U,h1.2⟩,U,U,U⟩
   obtain⟨h8,b1,b2,b3,b4⟩:=ax (v:=ω A9 (row.length+1) K9) blk7 (o:=0) (by simp) rfl;have bs8:Bk h8 Bs (seats.map (Value.int .i64)) 3:=(b4 Bs (Ne.symm n3.2.1)).trans bs7;obtain⟨h9,c1,c2,c3,c4⟩:=da bs8 (k:=k) U ((row.length+1:Nat):Int);have y2:ldC h8 hp 2=Y (ω (Y ⟨Bs,0,η⟩) N (cx N)):=aa b2 rfl;have y0:ldC h8 hp 0=Y (ω A9 (row.length+1) K9):=aa b2 rfl;have hlen9:(row ++ [k]).length=row.length+1:=by simp
   refine⟨A9,row.length+1,K9,h7,a1,h8,b1,_,_,_,y2,_,_,_,y0,_,_,rfl,hk,h9,c1,row ++ [k],A9,K9,seats.set k ((row.length:Int)+1),λb=>S b\/(h.next<=b/\b<h7.next),row.length,⟨?_,?_,?_,?_,⟨U,U,U⟩,⟨.inl H1.inS.1,.inl H1.inS.2.1,.inl H1.inS.2.2⟩,n3,new9,hcl,hN,λy hy=>?_,?_,H1.cbd,BK H1.seat hk hnm⟩,by simp,by simp[hsl,hk],?_,?_,λb hb=>hb.imp id λh=>⟨h.1,U⟩,λrow2 hm2=>?_⟩
   .rw[hlen9];exact(c4 hp n3.2.1).trans b2
   .exact(c4 Bc n3.2.2).trans ((b4 Bc (Ne.symm n3.1)).trans bc7)
   .rw[show((row.length+1:Nat):Int)=(row.length:Int)+1 by omega]at c2;exact c2
   .rw[hlen9];have:eE (row ++ [k])=eE row ++ [(k:Int)]:=by simp[eE]
    rw[this];exact a2.keep (λb hb _=>(c4 b (new9 b hb).2.2.2).trans (b4 b (new9 b hb).2.1)) U
   .rcases List.mem_append.1 hy with hy | hy
    .exact H1.lt y hy
    .simp at hy;omega
   .refine List.nodup_append.2 ⟨H1.nodup,by simp,λy hy z hz=>?_⟩;simp at hz;subst hz;exact λe=>hnm (e ▸ hy)
   .rw[uT (by rw[hcl];exact hk),DS,hlen9];exact(HR.other (k:=k) (v:=c) (λj hj he=>hnm (by
     have h7:row[j]? = Y row[j]:=List.getElem?_eq_getElem hj;rw[cJ h7]at he;rw[<-he];exact List.getElem_mem hj))).put k
   .refine⟨by have:=k6.next;omega,λb hb hn=>?_⟩;have e1:b≠Bs:=λe=>hn (e ▸ H1.inS.2.2);have e2:b≠hp:=λe=>hn (e ▸ H1.inS.1);exact((c4 b e1).trans (b4 b e2)).trans (k7 b hb (λhh=>hn (H1.far b hh).1))
   .exact HQ.new (by rw[hcl];exact hk) hnm (λy=>by rw[hm2 y];simp)
  ·
   have hkr:∃p:Nat,row[p]? = Y k/\seats[k]? = Y ((p:Int)+1):=by
    rcases H1.seat.2 k hk with hh | ⟨_,hn⟩
    .exact hh
    .rw[hs]at hn;injection hn with hn;omega
   obtain⟨p,hp1,hp2⟩:=hkr;have hkm:k∈row:=List.mem_of_getElem? hp1;have hpl:=(List.getElem?_eq_some_iff.1 hp1).1;refine⟨_,_,_,H1.c1,_,_,rfl,hk,_,x0,λhle=>?_,λhgt=>?_⟩
   .obtain⟨g1,g2⟩:=HQ.same (c:=c) hkm (by rw[hxc];exact hx0) (by rw[hxc];exact hle);have:=hK h S ⟨row,costs,A,K,Bc,Bs,seats,H1,HR,g1,HS⟩ (Mt.refl _ _) (λb hb=>.inl hb)
    rwa [g2]at this
   .refine⟨row,A,K,seats,S,p,H1,hp1,hp2,?_,Mt.refl _ _,λb hb=>.inl hb,λrow2 hm2=>HQ.less (by rw[hcl];exact hk) hkm hm2 hc0 (by rw[hxc];omega)⟩;rw[uT (by rw[hcl];exact hk)];have hrk:=cJ hp1;rw[<-hrk];refine HR.less hpl (by rw[hrk,hxc];omega) λj hj he=>?_;have h7:row[j]? = Y row[j]:=List.getElem?_eq_getElem hj;rw[cJ h7,hrk]at he;rw[he]at h7;exact dY H1.nodup h7 hp1
theorem Jh {q:Nat->Option Nat}(H:bF h S hp N q) (hK0:(∀k,q k=η)->Q (.tuple #[ξ ψ 0,ξ ψ 0,.bool false]) h)
  (hK:∀(k c:Nat) h',k<N->q k=Y c->(∀b c',q b=Y c'->c<=c')->bF h' S hp N (del q k)->Mt S h h'->h'.next=h.next->Q (.tuple #[ξ ψ k,ξ ψ c,.bool true]) h'):WC Tryz.prog 91 [ν (Y ⟨hp,0,η⟩)] h Q:=by
 obtain⟨row,costs,A,K,Bc,Bs,seats,H1,HR,HQ,HS⟩:=H;have hN:=H1.nN;have hf:=H1.few;refine oZ ⟨_,_,rfl,_,_,_,H1.c0,λh0=>hK0 λk=>?_,λh0=>?_⟩
 .have:row = []:=List.eq_nil_of_length_eq_zero U;rw[HQ k,this];rfl
 .obtain⟨m,hm⟩:∃m,row.length=m+1:=⟨row.length - 1,U⟩;obtain⟨k,hk⟩:∃k,row[0]? = Y k:=⟨_,List.getElem?_eq_getElem U⟩;obtain⟨b,hb⟩:∃b,row[m]? = Y b:=⟨_,List.getElem?_eq_getElem U⟩;obtain⟨g,rfl,hg,hil,e0⟩:=H1.own.read (dt hk);have hkN:=H1.lt k (List.mem_of_getElem? hk);have c0:=H1.c0;refine⟨_,_,_,c0,_,_,rfl,U,_,e0,_,_,_,c0,_,ae U U,rfl,?_⟩;rw[show((row.length:Int) - 1)=(m:Int) by omega,show(0:Int)=((0:Nat):Int) from rfl];refine D7 H1 hk hb λh1 H2 m1 z1=>⟨rfl,_,_,_,H2.c0,m,rfl,?_⟩;have hl1:(rr row 0 m).length=m+1:=by rw[jK];exact hm
  have l0:0<row.length:=U;have lm:m<row.length:=U;have hk1:(rr row 0 m)[m]? = Y k:=by
   rw[dO l0 lm];by_cases h:m=0
   .subst h;rw[if_pos rfl];exact hk
   .rw[if_neg h,if_pos rfl];exact hk
  obtain⟨o2,hsl⟩:=H2.own.cut (m:=m) U U;have n3:=H2.ne;have far2:=H2.far g rfl;obtain⟨h2,s2,b2,z2,k2⟩:=ax (v:=ω (Y ⟨g,0,η⟩) m K) H2.blk (o:=0) (by simp) rfl;have bs2:=(k2 Bs (Ne.symm n3.2.1)).trans H2.bs;have hsl2:=H2.seat.1;obtain⟨h3,s3,b3,z3,k3⟩:=da bs2 (k:=k) U 0;have y2:ldC h2 hp 2=Y (ω (Y ⟨Bs,0,η⟩) N (cx N)):=aa b2 rfl;have l3:=H2.lt3;have hlt:((rr row 0 m).take m).length=m:=by simp[hl1]
  have H3:bE h3 S hp N ((rr row 0 m).take m) costs (Y ⟨g,0,η⟩) K Bc Bs ((((seats.set b ((0:Int)+1)).set k ((m:Int)+1))).set k 0):=by
   refine⟨by rw[hlt];exact(k3 hp n3.2.1).trans b2,(k3 Bc n3.2.2).trans ((k2 Bc (Ne.symm n3.1)).trans H2.bc),b3,?_,⟨U,U,U⟩,H2.inS,n3,H2.far,H2.cl,hN,λy hy=>H2.lt y (List.mem_of_mem_take hy),H2.nodup.sublist (List.take_sublist _ _),H2.cbd,BL H2.seat H2.nodup hl1 hk1 hkN⟩;rw[hlt,<-yM];exact o2.keep (λc hc _=>by have:c=g:=hc;rw[this];exact(k3 g far2.2.2.2).trans (k2 g far2.2.1)) U
  have hdn:gL (kQ costs) (rt ((rr row 0 m).take m)) ((rr row 0 m).take m).length 0:=by
   rw[hm]at HR;rw[hlt];refine HR.pop.congr λx hx=>?_;rw[<-yN l0 lm];unfold rt;rw[List.getD_eq_getElem?_getD,List.getD_eq_getElem?_getD,List.getElem?_take];simp[hx]
  have hmem2:∀x,x∈(rr row 0 m).take m↔x∈row/\x≠k:=λx=>by rw[FO H2.nodup hl1 hk1,lY l0 lm]
  refine⟨_,_,_,hsl,h2,s2,_,_,_,y2,k,rfl,_,_,rfl,hkN,h3,s3,Jf H3 hdn λh4 row2 seats2 H4 l4 m4 r4 mt4 z4=>⟨rfl,_,_,_,H4.c1,_,_,rfl,hkN,?_⟩⟩;obtain⟨x,hx,x1,x2,x3⟩:=H4.cost hkN;have hxc:kQ costs k=x:=by simp[kQ,List.getD_eq_getElem?_getD,hx]
  have hkr:k∈row:=List.mem_of_getElem? hk;refine⟨x,x1,?_⟩;have hmt:Mt S h h4:=(m1.then ⟨U,λc _ hc=>(k3 c (λe=>hc (e ▸ H2.inS.2.2))).trans (k2 c (λe=>hc (e ▸ H2.inS.1)))⟩).then mt4;have:=hK k x.toNat h4 hkN (by rw[HQ k,if_pos hkr,hxc]) (λy c' hy=>?_) ⟨row2,costs,_,K,Bc,Bs,seats2,H4,r4,λy=>?_,λy hy=>?_⟩ hmt U
  .rwa [Int.toNat_of_nonneg x2]at this
  .rw[HQ y]at hy
   split at hy
   .rename_i hyr;injection hy with hy;obtain⟨j,hj⟩:=List.getElem?_of_mem hyr;have h8:=HR.top j (List.getElem?_eq_some_iff.1 hj).1;rw[cJ hk,cJ hj]at h8;unfold jI at h8;omega
   .cases hy
  .unfold del;by_cases hyk:y=k
   .rw[if_pos hyk,if_neg (λhh=>((hmem2 y).1 ((m4 y).1 hh)).2 hyk)]
   .rw[if_neg hyk,HQ y];by_cases hyr:y∈row
    .rw[if_pos hyr,if_pos ((m4 y).2 ((hmem2 y).2 ⟨hyr,hyk⟩))]
    .rw[if_neg hyr,if_neg (λhh=>hyr ((hmem2 y).1 ((m4 y).1 hh)).1)]
  .have:=HS y hy;omega
end
end Eva
end
section
open Go Go.RowKit
namespace Eva
section
variable {h h':AH}{S:Nat->Prop}{hp N:Nat}{Q:Value->AH->Prop}
theorem cr.cut0 {A:Option Addr}{n K:Nat}{xs:List Int}(o:cr h A n K xs):cr h A 0 K []/\am Tryz.prog 3 A n K η (Y 0) η=Y (ω A 0 K):=by
 rcases Nat.eq_zero_or_pos n with h0 | h0
 .subst h0;have hx:xs = []:=List.eq_nil_of_length_eq_zero o.1;subst hx;refine⟨o,?_⟩;rcases o.2 with⟨rfl,_,rfl⟩ | ⟨g,c,rest,rfl,h1,h2,h3,h4,h5⟩
  .obtain⟨i,hi,-⟩:=bg dR;unfold am;rw[hi];rfl
  .have o1:cr h (Y ⟨g,0,η⟩) 0 K ([]:List Int):=o;obtain⟨i,hi,hsz⟩:∃i,Tryz.prog.info? 3=Y i/\i.size=1:=by
    obtain⟨i,q1,q2,-⟩:=bg dR;exact⟨i,q1,q2⟩
   unfold am;rw[hi];have hc2:K / 2=c:=by rw[h2];unfold cl;omega
   have hp:Nat.beq (K % 2) 0=false:=by
    have:K % 2=1:=by rw[h2];unfold cl;omega
    rw[this];rfl
   have hb1:Nat.ble 0 (K / 2)=true:=Nat.ble_eq_true_of_le (Nat.zero_le _);have hlt:Nat.blt 0 (K / 2)=true:=Nat.ble_eq_true_of_le U;show cond (Option.isNone (none:Option Nat) || Option.isSome (Y 0)) (bS i.size (Y ⟨g,0,η⟩) 0 K ((none:Option Nat).getD 0) (Y 0) η) η=_;simp only[Option.isNone_none,Bool.true_or,cond_true,Option.getD_none];unfold bS;have hb0:Nat.ble 0 0=true:=rfl;simp only[Option.getD_some,hb1,hb0,Bool.and_self,cond_true,hp,cond_false];unfold mP;rw[hlt];simp only[cond_true,Nat.sub_zero,Nat.zero_mul,Option.map_some];rw[hc2,h2];rfl
 .have:=o.cut (m:=0) (Nat.zero_le _) h0;simpa using this
theorem HT {q:Nat->Option Nat}(H:bF h S hp N q) (hK:∀h',bF h' S hp N (λ_=>η)->Mt S h h'->h'.next=h.next->Q (.tuple #[]) h'):WC Tryz.prog 168 [ν (Y ⟨hp,0,η⟩)] h Q:=by
 obtain⟨row,costs,A,K,Bc,Bs,seats,H1,HR,HQ,HS⟩:=H;have hN:=H1.nN;have hf:=H1.few;have n3:=H1.ne;refine lN ⟨_,_,rfl,_,_,_,H1.c0,λm x h1=>∃(i:Nat) (seats':List Int),x=i/\m=row.length - i/\i<=row.length/\seats'.length=N/\(∀k,k<N->seats'[k]? = if k∈row.take i then Y 0 else seats[k]?)/\Bk h1 Bs (seats'.map (Value.int .i64)) 3/\h1.next=h.next/\(∀b,b≠Bs->h1.get b=h.get b),row.length,⟨0,seats,rfl,rfl,Nat.zero_le _,H1.seat.1,λk _=>by simp,H1.bs,rfl,λ_ _=>rfl⟩,?_⟩;rintro m x h1 ⟨i,seats',rfl,hm,hi,hl,hs,hb,hz,ho⟩;subst m;have y0:ldC h1 hp 0=Y (ω A row.length K):=(bj (ho hp n3.2.1) _).trans H1.c0;have y2:ldC h1 hp 2=Y (ω (Y ⟨Bs,0,η⟩) N (cx N)):=(bj (ho hp n3.2.1) _).trans H1.c2;have own1:cr h1 A row.length K (eE row):=H1.own.keep (λb hb _=>ho b (H1.far b hb).2.2.2) U;refine⟨λhlt=>?_,λhge=>?_⟩
 .obtain⟨k,hk⟩:∃k,row[i]? = Y k:=⟨_,List.getElem?_eq_getElem U⟩;obtain⟨g,rfl,hg,hil,e0⟩:=own1.read (dt hk);have hkN:=H1.lt k (List.mem_of_getElem? hk);obtain⟨h2,q1,q2,q3,q4⟩:=da hb (k:=k) U 0;refine⟨i,rfl,_,_,rfl,hil,_,e0,_,_,_,y2,k,rfl,_,_,rfl,hkN,h2,q1,_,ae U U,row.length - (i+1),U,i+1,_,U,rfl,U,by rw[List.length_set];exact hl,λy hy=>?_,q2,U,λb hb=>(q4 b hb).trans (ho b hb)⟩;rw[List.getElem?_set,List.take_add_one,hk];by_cases e:k=y
  .subst e;simp[hl,hkN]
  .rw[if_neg e,hs y hy];have:y∈row.take i ++ (Y k).toList↔y∈row.take i:=by simp;intro h;exact absurd h.symm e
   by_cases hm:y∈row.take i
   .rw[if_pos hm,if_pos (this.2 hm)]
   .rw[if_neg hm,if_neg (λh=>hm (this.1 h))]
 .have hie:i=row.length:=U;subst hie;obtain⟨o2,hsl⟩:=own1.cut0;have b1:Bk h1 hp [ω A row.length K,ω (Y ⟨Bc,0,η⟩) N (cx N),ω (Y ⟨Bs,0,η⟩) N (cx N)] 302:=(ho hp n3.2.1).trans H1.blk;obtain⟨h2,s2,b2,z2,k2⟩:=ax (v:=ω A 0 K) b1 (o:=0) (by simp) rfl;refine⟨_,_,_,y0,_,_,_,hsl,h2,s2,hK h2 ⟨[],costs,A,K,Bc,Bs,seats',⟨b2,(k2 Bc (Ne.symm n3.1)).trans ((ho Bc n3.2.2).trans H1.bc),(k2 Bs (Ne.symm n3.2.1)).trans hb,o2.keep (λb hb _=>k2 b (H1.far b hb).2.1) U,⟨by have:=H1.lt3;omega,by have:=H1.lt3;omega,by have:=H1.lt3;omega⟩,H1.inS,n3,H1.far,H1.cl,hN,by simp,by simp,H1.cbd,hl,λk hk=>.inr ⟨by simp,?_⟩⟩,λj h1 h2=>by simp at h2,λk=>by simp,λb hb=>by rw[z2,hz];exact HS b hb⟩ ⟨U,λb _ hn=>(k2 b (λe=>hn (e ▸ H1.inS.1))).trans (ho b (λe=>hn (e ▸ H1.inS.2.2)))⟩ U⟩;rw[hs k hk,List.take_of_length_le (Nat.le_refl _)];by_cases hm:k∈row
  .rw[if_pos hm]
  .rw[if_neg hm];rcases H1.seat.2 k hk with⟨p,h1,-⟩ | ⟨-,h1⟩
   .exact absurd (List.mem_of_getElem? h1) hm
   .exact h1
end
end Eva
end
section
open Go Go.RowKit
def cM (zs:List Int):Nat->List Int
 | 0=>[]
 | k+1=>if 0<k/\zs[k]? = zs[k - 1]? then cM zs k else cM zs k ++ (zs[k]?).toList
theorem mg {zs:List Int}{x:Int}:∀k,x∈cM zs k↔x∈zs.take k
 | 0=>by simp[cM]
 | k+1=>by
  unfold cM;rw[List.take_add_one,List.mem_append]
  split
  .rename_i h;rw[mg k];constructor
   .exact .inl
   .rintro(h1 | h1)
    .exact h1
    .rw[h.2]at h1;have h2:zs[k - 1]? = Y x:=by simpa using h1
     refine List.mem_of_getElem? (i:=k - 1) ?_;rw[List.getElem?_take,if_pos U];exact h2
  .rw[List.mem_append,mg k]
theorem kU {zs:List Int}(hs:zs.Pairwise (·<=·)){i j:Nat}{x y:Int}(hi:zs[i]? = Y x) (hj:zs[j]? = Y y) (hij:i<=j):x<=y:=by
 rcases Nat.eq_or_lt_of_le hij with rfl | h
 .rw[hi]at hj;injection hj with hj;omega
 .obtain⟨hil,rfl⟩:=List.getElem?_eq_some_iff.1 hi;obtain⟨hjl,rfl⟩:=List.getElem?_eq_some_iff.1 hj;exact List.pairwise_iff_getElem.1 hs i j hil hjl h
theorem mh {zs:List Int}(hs:zs.Pairwise (·<=·)):∀k,(cM zs k).Pairwise (· < ·)
 | 0=>by simp[cM]
 | k+1=>by
  unfold cM
  split
  .exact mh hs k
  .rename_i h;cases hk:zs[k]? with
   | none=>simpa using mh hs k
   | some x=>
    refine List.pairwise_append.2 ⟨mh hs k,by simp,λy hy z hz=>?_⟩;have hzx:z=x:=by simpa using hz
    subst hzx;obtain⟨i,hi⟩:=List.getElem?_of_mem ((mg k).1 hy);rw[List.getElem?_take]at hi
    split at hi
    .rename_i hik;have h1:y<=z:=kU hs hi hk U;rcases Int.lt_or_eq_of_le h1 with h2 | h2
     .exact h2
     .exfalso;have hkl:=(List.getElem?_eq_some_iff.1 hk).1;obtain⟨u,hu⟩:∃u,zs[k - 1]? = Y u:=⟨_,List.getElem?_eq_getElem U⟩;have h3:=kU hs hi hu U;have h4:=kU hs hu hk U;exact h ⟨U,by rw[hk,hu];congr 1;omega⟩
    .cases hi
def kV (low row:List Int) (c:Int):Nat->List Int
 | 0=>[]
 | k+1=>if row[k]? = Y c then kV low row c k ++ (low[k]?).toList else kV low row c k
theorem mi {low row:List Int}{c x:Int}:∀k,x∈kV low row c k↔∃v,v<k/\row[v]? = Y c/\low[v]? = Y x
 | 0=>by simp[kV]
 | k+1=>by
  unfold kV
  split
  .rename_i h;rw[List.mem_append,mi k,Option.mem_toList];constructor
   .rintro(⟨v,h1,h2,h3⟩ | h1)
    .exact⟨v,U,h2,h3⟩
    .exact⟨k,U,h,by simpa using h1⟩
   .rintro⟨v,h1,h2,h3⟩;by_cases e:v=k
    .subst e;exact .inr (by simpa using h3)
    .exact .inl ⟨v,U,h2,h3⟩
  .rename_i h;rw[mi k];constructor
   .rintro⟨v,h1,h2,h3⟩;exact⟨v,U,h2,h3⟩
   .rintro⟨v,h1,h2,h3⟩;by_cases e:v=k
    .subst e;exact absurd h2 h
    .exact⟨v,U,h2,h3⟩
theorem wT (low row:List Int) (c:Int):∀k,(kV low row c k).length<=k
 | 0=>by simp[kV]
 | k+1=>by
  unfold kV;have:=wT low row c k
  split
  .rw[List.length_append];have:(low[k]?).toList.length<=1:=by cases low[k]? <;>simp
   omega
  .omega
theorem BU {l:List Int}(h:∀x∈l,0<=x):ints (l.map Int.toNat)=l:=by
 unfold ints;rw[List.map_map]
 conv=>rhs;rw[<-List.map_id l]
 refine List.map_congr_left λx hx=>?_;have:=h x hx;show((x.toNat:Nat):Int)=x;omega
theorem eh {p:List (List Int)}{k v:Nat}{row:List Int}{x:Int}(hr:p[k - 1]? = Y row) (hx:row[v]? = Y x):aG p k v=x.toNat:=by
 unfold aG;rw[hr];simp[hx]
namespace Eva
section
variable {h h':AH}{Q:Value->AH->Prop}{F:Nat->Prop}{A:Option Addr}{n K:Nat}{zs:List Int}{p:List (List Int)}
theorem qO:∀(l:List Int),jf (l.map (Value.int .i64))=Y l
 | []=>rfl
 | x :: l=>by
  show(jf (l.map (Value.int .i64))).map (x :: ·)=_;rw[qO l];rfl
theorem Ji (o:cr h A n K zs) (hn:0<n) (hnb:n<=1000000) (hK:∀h',cr h' A n K (zs.mergeSort λx y=>decide (x<=y))->Mt (ai A) h h'->h'.next=h.next->Q (.tuple #[]) h'):WC Tryz.prog 308 [ω A n K] h Q:=by
 obtain⟨hl,o⟩:=o;rcases o with⟨_,h1,_⟩ | ⟨g,c,rest,rfl,h1,h2,h3,h4,h5⟩
 .omega
 .have hs:orc 308 [ω (Y ⟨g,0,η⟩) n K] h=Y (.tuple #[],h.put g (.cells ((zs.mergeSort λx y=>decide (x<=y)).map (Value.int .i64) ++ rest) 3 false)):=by
   unfold orc;rw[Nat.beq_refl];simp only[cond_true];unfold zH;simp only[h5];have e1:((zs.map (Value.int .i64) ++ rest).drop 0).take n=zs.map (Value.int .i64):=by
    rw[List.drop_zero,List.take_append_of_le_length (by simp;omega),List.take_of_length_le (by simp;omega)]
   rw[e1,qO];have e3:(zs.map (Value.int .i64) ++ rest).drop (0+n)=rest:=by
    rw[show 0+n=(zs.map (Value.int .i64)).length by simp;omega,List.drop_left]
   unfold yl;have b1:Nat.ble (0+n) (zs.map (Value.int .i64) ++ rest).length=true:=Nat.ble_eq_true_of_le (by simp;omega);have b2:Nat.ble n (K / 2)=true:=Nat.ble_eq_true_of_le (by rw[h2];unfold cl;omega);have b3:Nat.ble n 1000000=true:=Nat.ble_eq_true_of_le hnb;simp only[b1,b2,b3,Bool.and_self,cond_true,List.take_zero,List.nil_append,e3]
  refine⟨0,_,_,by unfold aR;rw[hs],hK (h.put g (.cells ((zs.mergeSort λx y=>decide (x<=y)).map (Value.int .i64) ++ rest) 3 false)) ⟨by rw[List.length_mergeSort];exact hl,.inr ⟨g,c,rest,rfl,h1,h2,h3,h4,?_⟩⟩ ⟨Nat.le_refl _,λb hb hn=>by rw[get_put,if_neg (λe:b=g=>hn e)]⟩ rfl⟩;show(h.put g _).get g=_;rw[get_put,if_pos rfl]
theorem Ae {g k c:Nat}(hk:k<=n) (hn:n<=c) (hkc:k<c):am Tryz.prog 3 (Y ⟨g,0,η⟩) n (cl c) (Y k) η η=Y (ω (Y ⟨g,k,η⟩) (n - k) (cl (c - k))):=by
 obtain⟨i,hi,hsz,-⟩:=bg dR;unfold am;rw[hi];have hc2:(cl c) / 2=c:=by unfold cl;omega
 have hp:Nat.beq ((cl c) % 2) 0=false:=by
  have:(cl c) % 2=1:=by unfold cl;omega
  rw[this];rfl
 have b1:Nat.ble n ((cl c) / 2)=true:=Nat.ble_eq_true_of_le U;have b2:Nat.ble k n=true:=Nat.ble_eq_true_of_le hk;have b3:Nat.blt k c=true:=Nat.ble_eq_true_of_le hkc;show cond (Option.isNone (none:Option Nat) || Option.isSome (none:Option Nat)) (bS i.size (Y ⟨g,0,η⟩) n (cl c) ((Y k).getD 0) η η) η=_;simp only[Option.isNone_none,Bool.true_or,cond_true,Option.getD_some];unfold bS;simp only[Option.getD_none,b1,b2,Bool.and_self,cond_true,hp,cond_false];unfold mP;rw[hc2,b3,hsz,Nat.mul_one];simp only[cond_true,Option.map_some];rw[aZ,Nat.zero_add]
theorem yR {g o m:Nat}{cells:List Value}{L:Nat}(hb:Bk h g cells 3) (ho:o+m<=cells.length) :
  ∃h',fi Tryz.prog h (Y (.slice 3)) (ω (Y ⟨g,o,η⟩) m L)=Y (.tuple #[],h')/\Bk h' g (cells.take o ++ List.replicate m (ξ ψ 0) ++ cells.drop (o+m)) 3/\h'.next=h.next/\∀b,b≠g->h'.get b=h.get b:=by
 have hz:∃i,Tryz.prog.info? 3=Y i/\i.zero=Y (ξ ψ 0)/\i.size=1:=by
  obtain⟨i,hi,hs,-⟩:=bg dR;refine⟨i,hi,?_,hs⟩;have:(match Tryz.prog.info? 3 with | some i=>i.zero | none=>η)=Y (ξ ψ 0):=by kernel_rfl
  rw[hi]at this;exact this
 obtain⟨i,hi,hz,hs⟩:=hz;unfold fi;simp only[hi,hz,hs];have zo:ff (Value.int .i64 0) 1=true:=by kernel_rfl
 rw[zo];simp only[cond_true];rcases Nat.eq_zero_or_pos m with h0 | h0
 .subst h0;refine⟨h,rfl,?_,rfl,λ_ _=>rfl⟩;simpa using hb
 .have hb0:Nat.beq m 0=false:=by
   cases hb0:Nat.beq m 0 with
   | false=>rfl
   | true=>have:=aq hb0;omega
  rw[hb0];simp only[cond_false];have e1:dD m ((Value.int .i64 0).cells.toList)=List.replicate m (Value.int .i64 0):=aQ _ _;rw[e1];have:=GW (h:=h) (b:=g) (o:=o) (vs:=List.replicate m (Value.int .i64 0)) hb (by simpa using ho) (λv hv=>by rw[List.eq_of_mem_replicate hv];rfl);unfold j0 at this;rw[this];refine⟨_,rfl,?_,rfl,λb hb=>by rw[get_put,if_neg hb]⟩;show(h.put g _).get g=_;rw[get_put,if_pos rfl];simp
theorem Ea (o:cr h A n K zs) (hn:n<=100000) (hK:∀m h',cr h' A m K (cM zs zs.length)->Mt (ai A) h h'->h'.next=h.next->Q (ω A m K) h'):WC Tryz.prog 309 [ω A n K] h Q:=by
 have hl:=o.1;have done:cM zs n=zs->Q (ω A n K) h:=λhd=>hK n h (by rw[hl,hd];exact o) (Mt.refl _ _) rfl;have d1:∀k,0<k->k<n->cM zs k=zs.take k->¬zs[k]? = zs[k - 1]?->cM zs (k+1)=zs.take (k+1):=λk h0 hk hd hne=>by
  unfold cM;rw[if_neg (λh=>hne h.2),hd,List.take_add_one]
 have d0:cM zs 1=zs.take 1:=by
  unfold cM;rw[if_neg (λh=>absurd h.1 (Nat.lt_irrefl _))];simp[cM,List.take_add_one]
 refine gi ⟨λhlt=>?_,λhge=>?_⟩
 .refine done ?_;rcases Nat.eq_zero_or_pos n with h0 | h0
  .rw[h0];have:zs = []:=List.eq_nil_of_length_eq_zero U;rw[this];rfl
  .have:n=1:=U;rw[this,d0,List.take_of_length_le U]
 refine⟨λm x h1=>∃k:Nat,x=k/\0<k/\k<=n/\m=n - k/\cM zs k=zs.take k/\h1=h,n - 1,⟨1,rfl,U,U,rfl,d0,rfl⟩,?_⟩;rintro m x h1 ⟨k,rfl,hk0,hk,rfl,hd,rfl⟩;refine⟨λhlt=>?_,λhge2=>?_⟩
 rotate_left
 .refine done ?_;have:k=n:=U;rw[<-this,hd,List.take_of_length_le U]
 have hkn:k<n:=U;obtain⟨g,c,rest,rfl,g1,g2,g3,g4,g5⟩:∃g c rest,A=Y ⟨g,0,η⟩/\g<h1.next/\K=cl c/\0<c/\rest.length+n=c/\Bk h1 g (zs.map (Value.int .i64) ++ rest) 3:=by
  rcases o.2 with⟨_,h1,_⟩ | h1
  .omega
  .exact h1
 have rd:∀{ws:List Int}{h2:AH}{j:Nat}{y:Int},Bk h2 g (ws.map (Value.int .i64) ++ rest) 3->ws[j]? = Y y->ldC h2 g (0+j)=Y (ξ ψ y):=fun {ws h2 j y} hb hy=>by
  have:=(List.getElem?_eq_some_iff.1 hy).1;rw[aJ hb,Nat.zero_add,List.getElem?_append_left (by simpa using this)];simp[hy]
 obtain⟨y,hy⟩:∃y,zs[k]? = Y y:=⟨_,List.getElem?_eq_getElem U⟩;obtain⟨z,hz⟩:∃z,zs[k - 1]? = Y z:=⟨_,List.getElem?_eq_getElem U⟩;have wk:IntKind.i64.wrap ((k:Int) - 1)=((k - 1:Nat):Int):=by rw[Int.natCast_sub hk0];exact ae U U
 have wk1:IntKind.i64.wrap ((k:Int)+1)=((k+1:Nat):Int):=by rw[Int.natCast_succ];exact ae U U
 refine⟨k,rfl,g,0,rfl,hkn,_,rd g5 hy,_,wk,k - 1,rfl,U,_,rd g5 hz,λhe=>?_,λhe=>?_⟩
 rotate_left
 .exact⟨_,wk1,n - (k+1),U,k+1,rfl,U,hkn,rfl,d1 k hk0 hkn hd (by rw[hy,hz];intro e;injection e with e;exact he e),rfl⟩
 rw[g2];refine⟨_,_,_,Ae U U U,λm i x h2=>∃(q j:Nat) (ws:List Int),x=j/\i=q/\0<j/\j<=n - k/\m=n - k - j/\ws.length=n/\ws.take q=cM zs (k+j)/\q=(cM zs (k+j)).length/\q<=k+j - 1/\(∀r,k+j - 1<=r->ws[r]? = zs[r]?)/\Bk h2 g (ws.map (Value.int .i64) ++ rest) 3/\h2.next=h1.next/\∀b,b≠g->h2.get b=h1.get b,n - k - 1,⟨k,1,zs,rfl,rfl,U,U,rfl,hl,?_,?_,U,λ_ _=>rfl,g5,rfl,λ_ _=>rfl⟩,?_⟩
 .rw[cM,if_pos ⟨hk0,by rw[hy,hz,he]⟩,hd]
 .rw[cM,if_pos ⟨hk0,by rw[hy,hz,he]⟩,hd,List.length_take];omega
 rintro m i x h2 ⟨q,j,ws,rfl,rfl,hj0,hj,rfl,hwl,hwt,hq,hql,hwr,b2,z2,o2⟩;refine⟨λhlt=>?_,λhge=>?_⟩
 .have hjl:j<n - k:=U;have wj:IntKind.i64.wrap ((j:Int) - 1)=((j - 1:Nat):Int):=by rw[Int.natCast_sub hj0];exact ae U U
  have wj1:IntKind.i64.wrap ((j:Int)+1)=((j+1:Nat):Int):=by rw[Int.natCast_succ];exact ae U U
  have wq1:IntKind.i64.wrap ((q:Int)+1)=((q+1:Nat):Int):=by rw[Int.natCast_succ];exact ae U U
  obtain⟨u,hu⟩:∃u,zs[k+j]? = Y u:=⟨_,List.getElem?_eq_getElem U⟩;obtain⟨v,hv⟩:∃v,zs[k+j - 1]? = Y v:=⟨_,List.getElem?_eq_getElem U⟩;have ru:ldC h2 g (k+j)=Y (ξ ψ u):=by have:=rd b2 ((hwr (k+j) U).trans hu);rwa [Nat.zero_add]at this
  have rv:ldC h2 g (k+(j - 1))=Y (ξ ψ v):=by have:=rd b2 ((hwr (k+j - 1) U).trans hv);rwa [Nat.zero_add,show k+j - 1=k+(j - 1) by omega]at this
  refine⟨j,rfl,g,k,rfl,hjl,_,ru,_,wj,j - 1,rfl,U,_,rv,λhe=>?_,λhe=>⟨hjl,_,ru,q,rfl,U,?_⟩⟩
  .have e1:cM zs (k+(j+1))=cM zs (k+j):=by
    show cM zs (k+j+1)=_;rw[cM,if_pos ⟨U,by rw[hu,hv,he]⟩]
   exact⟨_,wj1,n - k - (j+1),U,q,j+1,ws,rfl,rfl,U,U,rfl,hwl,by rw[e1];exact hwt,by rw[e1];exact hq,U,λr hr=>hwr r U,b2,z2,o2⟩
  .obtain⟨h3,s3,b3,z3,o3⟩:=ax (v:=ξ ψ u) b2 (o:=0+q) (by simp;omega) rfl;rw[Nat.zero_add,List.set_append_left _ _ (by simp;omega),<-List.map_set]at b3;have e1:cM zs (k+(j+1))=cM zs (k+j) ++ [u]:=by
    show cM zs (k+j+1)=_;rw[cM,if_neg (λh=>he (by have:=h.2;rw[hu,hv]at this;injection this)),hu];rfl
   refine⟨h3,s3,_,wq1,_,wj1,n - k - (j+1),U,q+1,j+1,ws.set q u,rfl,rfl,U,U,rfl,by simp[hwl],?_,by rw[e1,List.length_append,<-hq];rfl,U,λr hr=>?_,b3,U,λb hb=>(o3 b hb).trans (o2 b hb)⟩
   .rw[e1,<-hwt,List.take_add_one,List.getElem?_set_self U,List.take_set_of_le (Nat.le_refl _)];rfl
   .rw[List.getElem?_set_ne U];exact hwr r U
 .obtain rfl:j=n - k:=U;rw[show k+(n - k)=n by omega]at hwt hq hql hwr;obtain⟨h4,s4,b4,z4,o4⟩:=yR (o:=q) (m:=n - q) (L:=cl (c - q)) b2 (by simp;omega);have hcut:am Tryz.prog 3 (Y ⟨g,0,η⟩) n (cl c) η (Y q) η=Y (ω (Y ⟨g,0,η⟩) q (cl c)):=by
   have oR:cr h1 (Y ⟨g,0,η⟩) n K zs:=o;have:=(oR.cut (m:=q) U U).2
   rwa [g2]at this
  refine⟨q,rfl,_,_,_,Ae U U U,h4,s4,_,_,_,hcut,?_⟩;have:=hK q h4 ⟨by rw[hl];exact hq.symm,.inr ⟨g,c,List.replicate (n - q) (ξ ψ 0) ++ rest,rfl,U,g2,g3,by simp;omega,?_⟩⟩ ⟨U,λb hb hne=>(o4 b (λe=>hne e)).trans (o2 b (λe=>hne e))⟩ U
  .rwa [g2]at this
  .have e2:(ws.map (Value.int .i64) ++ rest).take q=(cM zs zs.length).map (Value.int .i64):=by
    rw[List.take_append_of_le_length (by simp;omega),<-List.map_take,hwt,hl]
   have e3:(ws.map (Value.int .i64) ++ rest).drop (q+(n - q))=rest:=by
    rw[show q+(n - q)=(ws.map (Value.int .i64)).length by simp;omega,List.drop_left]
   rw[e2,e3,List.append_assoc]at b4;exact b4
end
end Eva
end
section
open Go Go.RowKit
namespace Eva
section
variable {h h':AH}{Q:Value->AH->Prop}{F:Nat->Prop}{A:Option Addr}{n K nv:Nat}{p:List (List Int)}
theorem fK {b o:Nat}{u:Value}(h0:ldC h b o=Y u):aB h b o 1=Y [u]:=
 nR rfl U λj x hj=>by
  match j,hj with
  | 0,hj=>injection hj with hj;subst hj;exact h0
theorem qP (hs:Sa aM F h A n K p) (hn:n<=1000){k:Nat}(h1:1<=k) (h2:k<=n) (hK:∀A' n' K' row h',p[k - 1]? = Y row->Sa cI F h' A' n' K' row->Nw h h'->Q (ω A' n' K') h'):WC Tryz.prog 305 [.agg #[ω A n K],ξ ψ k] h Q:=by
 refine qq λh1' e1=>?_;obtain⟨k1,g1,z1⟩:=aj e1;obtain⟨b,o,A',n',K',row,rfl,hF,hb,hr,e0,s0⟩:=(hs.nw k1).row (k:=k - 1) U;exact⟨λh=>absurd h U,λ_=>⟨_,_,_,aa g1 rfl,λh=>absurd h U,λ_=>⟨_,_,_,aa g1 rfl,_,ae U U,k - 1,U,_,_,rfl,U,_,_,_,e0,hK _ _ _ _ _ hr s0 k1⟩⟩⟩
theorem gU {k:Nat}{row:List Int}(hr:p[k - 1]? = Y row):(au p k:Int)=aO row:=by
 unfold au;rw[hr];have:=cW row;simp only[Option.getD_some];omega
theorem eG (hp:aP nv p){k:Nat}{row:List Int}(hr:p[k - 1]? = Y row):row.length=nv/\∀v,v<nv->∃x,row[v]? = Y x/\0<=x/\x<nv:=by
 have hm:=List.mem_of_getElem? hr;have hl:=hp.rows _ hm;refine⟨hl,λv hv=>⟨row[v]' U,List.getElem?_eq_getElem U,?_⟩⟩;exact hp.inr _ hm _ (List.getElem_mem _)
theorem HU (hp:aP nv p) (hs:Sa aM F h A n K p){k:Nat}(h1:1<=k) (h2:k<=n) (hK:∀h',Nw h h'->Q (ξ ψ (au p k:Int)) h'):WC Tryz.prog 263 [.agg #[ω A n K],ξ ψ k] h Q:=by
 have hn:n<=6:=by rw[<-hs.len];exact hp.few
 have hnv:=hp.nv_;refine uB λh1' e1=>?_;obtain⟨k1,g1,z1⟩:=aj e1;refine⟨_,_,_,fK (aa g1 rfl),qP (hs.nw k1) U h1 h2 λA' n' K' row h2' hr s2 k2=>⟨_,_,_,rfl,?_⟩⟩;obtain⟨hl,hx⟩:=eG hp hr;have hn':n' = nv:=by rw[<-s2.len];exact hl
 subst hn';refine⟨λm acc x h3=>∃i:Nat,x=i/\i<=n'/\m=n' - i/\acc=aO (row.take i)/\h3=h2',n',⟨0,rfl,Nat.zero_le _,rfl,rfl,rfl⟩,?_⟩;rintro m acc x h3 ⟨i,rfl,hi,rfl,rfl,rfl⟩;refine⟨λhlt=>?_,λhge=>?_⟩
 .obtain⟨b,o,y,rfl,-,-,hy,e0⟩:=s2.int (k:=i) U;obtain⟨y',hy',y0,y1⟩:=hx i U;rw[hy]at hy';injection hy' with hy';subst hy';have w1:IntKind.i64.wrap ((i:Int)+1)=((i+1:Nat):Int):=by rw[Int.natCast_succ];exact ae U U
  refine⟨i,rfl,_,_,rfl,U,_,e0,λhc=>⟨_,ae U U,_,w1,n' - (i+1),U,i+1,rfl,U,rfl,?_,rfl⟩,λhc=>⟨_,w1,n' - (i+1),U,i+1,rfl,U,rfl,?_,rfl⟩⟩
  .rw[eB hy];omega
  .rw[eB hy];omega
 .have hin:row.take i=row:=List.take_of_length_le U;rw[hin,<-gU hr];exact hK _ (k1.trans k2)
theorem BV (hp:aP nv p){k c:Nat}{row:List Int}(hr:p[k - 1]? = Y row) (hc:c<au p k):∃v,v<nv/\row[v]? = Y (c:Int):=by
 have hm:=List.mem_of_getElem? hr;have h1:=gU hr;obtain⟨v,hv⟩:=List.getElem?_of_mem (hp.full _ hm (c:Int) U U);exact⟨v,by rw[<-(eG hp hr).1];exact(List.getElem?_eq_some_iff.1 hv).1,hv⟩
theorem Jj {N:ab}(hp:aP N.nv p) (hs:Sa aM F h A n K p){k c:Nat}(h1:2<=k) (h2:k<=n) (hc:c<au p k)
  (hK:∀A' n' K' ks h',Sa cI (λb=>h.next<=b) h' A' n' K' (ints ks)->gk N p k c ks->Nw h h'->Q (ω A' n' K') h'):WC Tryz.prog 267 [.agg #[ω A n K],ξ ψ k,ξ ψ c] h Q:=by
 have hn:n<=6:=by rw[<-hs.len];exact hp.few
 have hnv:=hp.nv_;refine ww λh1' e1=>?_;obtain⟨k1,g1,z1⟩:=aj e1;have wk:IntKind.i64.wrap ((k:Int) - 1)=((k - 1:Nat):Int):=by rw[Int.natCast_sub U];exact ae U U
 refine⟨λh=>absurd h U,λ_=>⟨_,_,_,fK (aa g1 rfl),_,wk,qP (hs.nw k1) U U U λA3 n3 K3 low h2' hlo s3 k2=>⟨_,_,_,rfl,_,_,_,fK (aa (k2.bk U g1) rfl),qP (hs.nw (k1.trans k2)) U U h2 λA5 n5 K5 row h3' hro s5 k3=>⟨_,_,_,rfl,?_⟩⟩⟩⟩;obtain⟨hl,hx⟩:=eG hp hro;obtain⟨hl3,hx3⟩:=eG hp hlo;have hn5:n5=N.nv:=by rw[<-s5.len];exact hl
 have hn3:n3=N.nv:=by rw[<-s3.len];exact hl3
 subst hn5;have k03:=(k1.trans k2).trans k3;refine⟨λm A6 n6 K6 x h4=>∃i:Nat,x=i/\i<=N.nv/\m=N.nv - i/\cr h4 A6 n6 K6 (kV low row c i)/\(∀b,ai A6 b->h3'.next<=b)/\Nw h3' h4,N.nv,⟨0,rfl,Nat.zero_le _,rfl,⟨rfl,.inl ⟨rfl,rfl,rfl⟩⟩,λb hb=>hb.elim,Nw.refl _⟩,?_⟩;rintro m A6 n6 K6 x h4 ⟨i,rfl,hi,rfl,o4,lo4,k4⟩;have hn6:n6<=N.nv:=by have:=o4.1;have:=wT low row c i;omega
 refine⟨λhlt=>?_,λhge=>?_⟩
 .have w1:IntKind.i64.wrap ((i:Int)+1)=((i+1:Nat):Int):=by rw[Int.natCast_succ];exact ae U U
  obtain⟨b,o,y,hA5,-,-,hy,e0⟩:=(s5.nw k4).int (k:=i) U;obtain⟨b3,o3,y3,hA3,-,-,hy3,e3⟩:=(s3.nw (k3.trans k4)).int (k:=i) U;refine⟨i,rfl,b,o,hA5,U,_,e0,λhc=>⟨λ_=>⟨b3,o3,hA3,U,_,e3,λh5 e5=>?_⟩,λh=>absurd h U⟩,λhne=>⟨_,w1,N.nv - (i+1),U,i+1,rfl,U,rfl,?_,lo4,k4⟩⟩
  .obtain⟨k5,g5,z5⟩:=aj e5;obtain⟨A7,K7,h6,y1,y2,y3',y4,y5⟩:=(o4.keep (λb _ hb=>k5.get b hb) k5.next).app (L:=2) (aa g5 rfl) U;have hk6:Nw h3' h6:=⟨by have:=k4.next;omega,λb hb=>(y4 b (by have:=k4.next;omega) (λho=>by have:=lo4 b ho;omega)).trans ((k5.get b (by have:=k4.next;omega)).trans (k4.get b hb))⟩;refine⟨A7,n6+1,K7,h6,y1,_,w1,N.nv - (i+1),U,i+1,rfl,U,rfl,?_,λb hb=>(y5 b hb).elim (lo4 b) (λh=>by have:=k4.next;omega),hk6⟩;show cr h6 A7 (n6+1) K7 (kV low row c (i+1));rw[kV,if_pos (by rw[hy,hc]),hy3];exact y2
  .rw[kV,if_neg (by rw[hy];intro e;injection e with e;exact hne e)];exact o4
 .obtain rfl:i=N.nv:=U;obtain⟨v,hv,hvr⟩:=BV hp hro hc;obtain⟨u,hu,-⟩:=hx3 v hv;have hmem:u∈kV low row c N.nv:=(mi _).2 ⟨v,hv,hvr,hu⟩;have hpos:0<n6:=by have:=o4.1;have:=List.length_pos_of_mem hmem;omega
  refine Ji o4 hpos U λh7 o7 m7 z7=>⟨rfl,Ea o7 U λm8 h8 o8 m8' z8=>⟨_,_,_,rfl,?_⟩⟩;obtain⟨zs,hzs⟩:∃zs,(kV low row c N.nv).mergeSort (λx y=>decide (x<=y))=zs:=⟨_,rfl⟩;rw[hzs]at o8;have hsorted:zs.Pairwise (·<=·):=by
   rw[<-hzs];have:=List.pairwise_mergeSort (le:=λ(x y:Int)=>decide (x<=y)) (λa b c h1 h2=>by simp at *;omega) (λa b=>by simp;omega) (kV low row c N.nv);exact this.imp λh=>by simpa using h
  have hdm:∀x,x∈cM zs zs.length↔∃v,v<N.nv/\row[v]? = Y (c:Int)/\low[v]? = Y x:=λx=>by
   rw[mg,List.take_length,<-hzs,List.mem_mergeSort,mi]
  have hnn:∀x∈cM zs zs.length,0<=x:=λx hx=>by
   obtain⟨v,v1,v2,v3⟩:=(hdm x).1 hx;obtain⟨y,hy,y0,-⟩:=hx3 v v1;rw[hy]at v3;injection v3 with v3;omega
  have m48:Mt (ai A6) h4 h8:=m7.then m8';refine hK A6 m8 K6 ((cM zs zs.length).map Int.toNat) h8 ?_ ⟨?_,λd=>?_⟩ (m48.is_nw (k03.trans k4) λb hb=>by have:=lo4 b hb;have:=k03.next;omega)
  .rw[BU hnn];rcases o8.2 with⟨rfl,h1,rfl⟩ | ⟨g,c',rest,rfl,q1,q2,q3,q4,q5⟩
   .exact⟨o8.1,.inl ⟨rfl,h1,rfl⟩,λh=>absurd h U⟩
   .refine Sa.of_bk q5 o8.1 (by have:=lo4 g rfl;have:=k03.next;omega) q1 λj x hx=>?_;have hj:=(List.getElem?_eq_some_iff.1 hx).1;show((((cM zs zs.length).map (Value.int .i64) ++ rest).drop (j*1)).take 1) = [ξ ψ x];rw[Nat.mul_one];exact du (by rw[List.getElem?_append_left (by simpa using hj)];simp[hx])
  .rw[List.pairwise_map];have:=mh hsorted zs.length;refine(List.Pairwise.and_mem.1 this).imp fun {a b} hab=>?_;have h1:=hnn a hab.1;have h2:=hab.2.2;omega
  .rw[List.mem_map];constructor
   .rintro⟨x,hx,rfl⟩;obtain⟨v,v1,v2,v3⟩:=(hdm x).1 hx;exact⟨v,v1,by rw[eh hro v2];simp,by rw[eh hlo v3]⟩
   .rintro⟨v,v1,v2,v3⟩;obtain⟨x,hx',x0,-⟩:=hx v v1;obtain⟨y,hy,y0,-⟩:=hx3 v v1;rw[eh hro hx']at v2;rw[eh hlo hy]at v3;exact⟨y,(hdm y).2 ⟨v,v1,by rw[hx'];congr 1;omega,hy⟩,v3⟩
theorem Jk {o:Nat}{N:ab}(O:fE h F o N p){k c:Nat}(h1:2<=k) (h2:k<=p.length) (hc:c<au p k)
  (hK:∀A' n' K' ks h',Sa cI (λb=>h.next<=b) h' A' n' K' (ints ks)->gk N p k c ks->Nw h h'->Q (ω A' n' K') h'):WC Tryz.prog 206 [ν (Y ⟨o,0,η⟩),ξ ψ k,ξ ψ c] h Q:=by
 obtain⟨A,n,K,c0,s⟩:=O.part;exact ny ⟨o,0,rfl,A,n,K,fK c0,Jj O.hp s h1 (by rw[<-s.len];exact h2) hc λA' n' K' ks h' x1 x2 x3=>⟨_,_,_,rfl,hK A' n' K' ks h' x1 x2 x3⟩⟩
end
end Eva
end
section
open Go Go.RowKit
def ab.crB (N:ab) (p:List (List Int)) (k a:Nat):Bool:=decide (aG p k (N.fr a)≠aG p k (N.to a))
namespace Eva
section
variable {h h':AH}{Fa F Fp:Nat->Prop}{g:Nat}{N:ab}{p:List (List Int)}{Q:Value->AH->Prop}{A:Option Addr}{n K:Nat}
theorem Af {nv k:Nat}(hp:aP nv p) (h1:1<=k) (hk:k<=p.length):au p k<=nv:=by
 have hr:p[k - 1]? = Y (p[k - 1]' U):=List.getElem?_eq_getElem _;have hm:=List.mem_of_getElem? hr;have:=dq (row:=p[k - 1]' U) (n:=(nv:Int)) U (λx hx=>(hp.inr _ hm x hx).2);unfold au;rw[hr];simp only[Option.getD_some];omega
theorem fY:qN cI:=gR _
theorem Jl {k:Nat}{row:List Int}{F1:Nat->Prop}(G:gS h Fa F g N) (hp:aP N.nv p) (hr:p[k - 1]? = Y row) (hs:Sa cI F1 h A n K row){a:Nat}(ha:a<N.na)
  (hK:Q (.tuple #[ξ ψ ((aG p k (N.fr a):Nat):Int),ξ ψ ((aG p k (N.to a):Nat):Int),.bool true]) h):WC Tryz.prog 307 [ν (Y ⟨g,0,η⟩),ω A n K,ξ ψ a] h Q:=by
 obtain⟨hl,hx⟩:=eG hp hr;have hn:n=N.nv:=by rw[<-hs.len];exact hl
 have h1:=(ab.fr_lt G.ok ha).1;have h2:=(ab.to_lt G.ok ha).1;refine yA (wR G ha ⟨_,rfl,GX G ha ⟨_,rfl,λh=>absurd h U,λ_=>⟨λh=>absurd h U,λ_=>⟨λh=>absurd h U,λ_=>⟨λh=>absurd h U,λ_=>?_⟩⟩⟩⟩⟩);obtain⟨b,o,x,hA,-,-,hy,e0⟩:=hs.int (k:=N.fr a) U;obtain⟨b',o',x',hA',-,-,hy',e0'⟩:=hs.int (k:=N.to a) U;rw[hA]at hA';injection hA' with hA';injection hA' with hA1 hA2;subst hA1 hA2;obtain⟨u,hu,u0,-⟩:=hx _ h1;obtain⟨v,hv,v0,-⟩:=hx _ h2;rw[hy]at hu;rw[hy']at hv;obtain rfl:=Option.some.inj hu;obtain rfl:=Option.some.inj hv;refine⟨_,rfl,_,_,hA,U,_,e0,_,rfl,U,_,e0',?_⟩;rw[eh hr hy,eh hr hy']at hK
 rwa [Int.toNat_of_nonneg u0,Int.toNat_of_nonneg v0]at hK
theorem HV (G:gS h Fa F g N) (hp:aP N.nv p) (hs:Sa aM Fp h A n K p){k:Nat}(h1:1<=k) (h2:k<=n)
  (hK:∀A' n' K' h',Sa cI (λb=>h.next<=b) h' A' n' K' (ints (bU (N.crB p k) N.na))->Nw h h'->Q (ω A' n' K') h'):WC Tryz.prog 264 [ν (Y ⟨g,0,η⟩),.agg #[ω A n K],ξ ψ k] h Q:=by
 have hn:n<=6:=by rw[<-hs.len];exact hp.few
 have hna:=G.few.2;refine wx λh1' e1=>?_;obtain⟨k1,g1,z1⟩:=aj e1;have row:∀{Q':Value->AH->Prop},(∀A' n' K' row h',p[k - 1]? = Y row->Sa cI Fp h' A' n' K' row->Nw h1' h'->Q' (ω A' n' K') h')->WC Tryz.prog 306 [.agg #[ω A n K],ξ ψ k] h1' Q':=fun {Q'} hQ=>by
  refine By λh2' e2=>?_;obtain⟨k2,g2,z2⟩:=aj e2;obtain⟨b,o,A',n',K',row,rfl,hF,hb,hr,e0,s0⟩:=(hs.nw (k1.trans k2)).row (k:=k - 1) U;exact⟨λh=>absurd h U,λ_=>⟨_,_,_,aa g2 rfl,λh=>absurd h U,λ_=>⟨_,_,_,aa g2 rfl,_,ae U U,k - 1,U,_,_,rfl,U,_,_,_,e0,hQ _ _ _ _ _ hr s0 k2⟩⟩⟩
 refine⟨_,_,_,fK (aa g1 rfl),row λA3 n3 K3 rw_ h3 hr s3 k3=>⟨_,_,_,rfl,tm (G.nw (k1.trans k3)) ⟨_,rfl,?_⟩⟩⟩;have k13:=k1.trans k3;refine⟨λm A4 n4 K4 x h4=>∃i:Nat,x=i/\i<=N.na/\m=N.na - i/\ay cI h4 (ai A4) 3 A4 n4 K4 (ints (bU (N.crB p k) i))/\(∀z,ai A4 z->h3.next<=z)/\Nw h3 h4,N.na,⟨0,rfl,Nat.zero_le _,rfl,ay.nil _ _ _ _,λz hz=>hz.elim,Nw.refl _⟩,?_⟩;rintro m A4 n4 K4 x h4 ⟨i,rfl,hi,hm,o4,lo4,k4⟩;have z13:=k13.next;refine⟨λhlt=>Jl (G.nw (k13.trans k4)) hp hr (s3.nw k4) U ⟨_,_,_,rfl,λ_=>⟨λhe=>?_,λhne=>?_⟩,λh=>Bool.noConfusion h⟩,λhge=>?_⟩
 .have hcr:N.crB p k i=false:=by unfold ab.crB;simp;omega
  exact⟨_,(by rw[Int.natCast_succ];exact ae U U:IntKind.i64.wrap ((i:Int)+1)=((i+1:Nat):Int)),N.na - (i+1),U,i+1,rfl,U,rfl,by rw[it,hcr];exact o4,lo4,k4⟩
 .have hcr:N.crB p k i=true:=by unfold ab.crB;simp;omega
  intro h6 e6;obtain⟨k6,g6,z6⟩:=aj e6;have hz:Sz cI (λz=>z=h4.next) h6 (Y ⟨h4.next,0,η⟩) 1 2 [(i:Int)]:=Sz.one g6 rfl U rfl rfl;have hl4:=o4.len;have hlt4:n4<=1000:=by
   rw[<-hl4];have:=aL (N.crB p k) i;simp only[ints,List.length_map];omega
  obtain⟨A',K',h7,y1,y2,y3,y4⟩:=bq fY dR (o4.nw k6) hz U U;have z4:=k4.next;refine⟨A',n4+1,K',h7,y1,_,(by rw[Int.natCast_succ];exact ae U U:IntKind.i64.wrap ((i:Int)+1)=((i+1:Nat):Int)),N.na - (i+1),U,i+1,rfl,U,rfl,?_,λz hz=>(y4 z hz).elim (lo4 z) (λh=>U),y3.is_nw (k4.trans k6) lo4⟩;rw[it,hcr,if_pos rfl];unfold ints at y2⊢;rw[List.map_append];exact y2
 .obtain rfl:i=N.na:=U;exact hK A4 n4 K4 h4 (o4.sa.mono λz hz _=>by have:=lo4 z hz;omega) (k13.trans k4)
end
end Eva
end
section
open Go Go.RowKit
theorem qQ {α:Type}{f:Nat->α}{n k:Nat}(hk:k<n) (v:α):((List.range n).map f).set k v=(List.range n).map (upd f k v):=by
 apply List.ext_getElem?;intro i;rw[List.getElem?_set];by_cases e:k=i
 .subst e;simp[hk,upd]
 .simp only[if_neg e,List.getElem?_map];by_cases hi:i<n
  .simp[List.getElem?_range hi,upd,Ne.symm e]
  .rw[List.getElem?_eq_none (by simpa using hi)];rfl
namespace Eva
theorem FT (z:Value) (n:Nat):dD n [z,z]=List.replicate (n*2) z:=by
 induction n with
 | zero=>rfl
 | succ n ih=>
  rw[Nat.succ_mul];show [z,z] ++ dD n [z,z]=_;rw[ih];rfl
structure ke (h:AH) (base b m:Nat) (t:TypeId) (L:Nat->List Nat):Prop where
 rows:∃(A:Nat->Option Addr) (n K:Nat->Nat),Bk h b ((List.range m).map λs=>Value.slice (A s) (n s) (K s)) t/\(∀s,s<m->ay cI h (ai (A s)) 3 (A s) (n s) (K s) (ints (L s)))/\(∀s z,s<m->ai (A s) z->base<=z)/\(∀s s' z,s<m->s' < m->ai (A s) z->ai (A s') z->s=s')
 pos:b<base/\base<=h.next
section
variable {h h':AH}{base b m s:Nat}{t:TypeId}{L:Nat->List Nat}
theorem ke.new (hb:Bk h b (List.replicate m (ω η 0 0)) t) (hlt:b<h.next):ke h h.next b m t (λ_=>[]):=by
 refine⟨⟨λ_=>η,λ_=>0,λ_=>0,?_,λs _=>ay.nil _ _ _ _,λs z _ hz=>hz.elim,λs s' z _ _ hz=>hz.elim⟩,hlt,Nat.le_refl _⟩;rw[List.map_const',List.length_range];exact hb
theorem ke.app (S:ke h base b m t L) (hs:s<m) (x:Nat) (hlen:(L s).length<=100000) :
  ∃A n K,ldC h b (0+s)=Y (ω A n K)/\∀h1,h1=AH.new h (.cells [ξ ψ (x:Int)] 3 false)->∃A' n' K' h2,ah Tryz.prog h1 (Y (.slice 3)) (Y (.slice 3)) (ω A n K) (ω (Y ⟨h.next,0,η⟩) 1 2)=Y (ω A' n' K',h2)/\
   ∃h3,j0 h2 b (0+s) [ω A' n' K']=Y h3/\ke h3 base b m t (upd L s (L s ++ [x]))/\Mt (λz=>z=b\/base<=z) h h3:=by
 obtain⟨⟨A,n,K,g1,g2,g3,g4⟩,p1,p2⟩:=S;refine⟨A s,n s,K s,by rw[aJ g1,Nat.zero_add];simp[hs],λh1 e1=>?_⟩;obtain⟨k1,w1,z1⟩:=aj e1;have hz:Sz cI (λz=>z=h.next) h1 (Y ⟨h.next,0,η⟩) 1 2 [(x:Int)]:=Sz.one w1 rfl U rfl rfl;have hl:=(g2 s hs).len;have hl':n s<=100000:=by rw[<-hl];simpa[ints]using hlen
 obtain⟨A',K',h2,y1,y2,y3,y4⟩:=bq fY dR ((g2 s hs).nw k1) hz U U;have z2:=y3.next;have nb:∀s',s' < m->¬ai (A s') b:=λs' hs' ho=>by have:=g3 s' b hs' ho;omega
 have b2:=y3.bk U (nb s hs) (k1.bk U g1);obtain⟨h3,s3,b3,z3,o3⟩:=ax (v:=ω A' (n s+1) K') b2 (o:=0+s) (by simpa using hs) rfl;have m3:Mt (λz=>z=b) h2 h3:=⟨U,λz _ hn=>o3 z hn⟩;have nA':∀z,ai A' z->z≠b/\base<=z:=λz hz=>(y4 z hz).elim (λh=>⟨λe=>nb s hs (e ▸ h),g3 s z hs h⟩) (λh=>⟨U,U⟩);refine⟨A',n s+1,K',h2,y1,h3,s3,⟨⟨upd A s A',upd n s (n s+1),upd K s K',?_,λs' hs'=>?_,λs' z hs' hz=>?_,λs' s'' z hs' hs'' h' h''=>?_⟩,p1,U⟩,⟨U,λz hz hn=>(o3 z (λe=>hn (.inl e))).trans ((y3.get z U (λho=>hn (.inr (g3 s z hs ho)))).trans (k1.get z hz))⟩⟩
 .rw[Nat.zero_add,qQ hs]at b3;have e:(λs_1=>Value.slice (upd A s A' s_1) (upd n s (n s+1) s_1) (upd K s K' s_1))=upd (λs=>Value.slice (A s) (n s) (K s)) s (ω A' (n s+1) K'):=by
   funext i
   unfold upd
   split <;>rfl
  rw[e];exact b3
 .unfold upd;by_cases e:s' = s
  .subst e;simp only[if_true];have:=y2.off m3 λz hz _ e=>(nA' z hz).1 e;unfold ints at this⊢;rw[List.map_append];exact this
  .simp only[if_neg e];exact(((g2 s' hs').nw k1).off y3 λz hz _ ho=>e (g4 s' s z hs' hs hz ho)).off m3 λz hz _ e'=>nb s' hs' (e' ▸ hz)
 .unfold upd at hz;by_cases e:s' = s
  .rw[if_pos e]at hz;exact(nA' z hz).2
  .rw[if_neg e]at hz;exact g3 s' z hs' hz
 .unfold upd at h' h'';have cross:∀{a:Nat},a<m->a≠s->ai (A a) z->ai A' z->False:=fun {a} ha hne h1' h2'=>(y4 z h2').elim (λh=>hne (g4 a s z ha hs h1' h)) (λh=>by have:=(g2 a ha).own h1';omega);by_cases e:s' = s
  .by_cases e':s'' = s
   .omega
   .rw[if_pos e]at h';rw[if_neg e']at h'';exact(cross hs'' e' h'' h').elim
  .by_cases e':s'' = s
   .rw[if_neg e]at h';rw[if_pos e']at h'';exact(cross hs' e h' h'').elim
   .rw[if_neg e]at h';rw[if_neg e']at h'';exact g4 s' s'' z hs' hs'' h' h''
theorem ke.gates {k K:Nat}(S:ke h base b (k*2) t L):Sa Rc.gate (λz=>z=b\/base<=z) h (Y ⟨b,0,η⟩) k K ((List.range k).map λc=>(ints (L (c*2)),ints (L (c*2+1)))):=by
 obtain⟨⟨A,n,K',g1,g2,g3,g4⟩,p1,p2⟩:=S;refine Sa.of_bk g1 (by simp) (.inl rfl) U λc x hx=>?_;have hc:c<k:=by have:=(List.getElem?_eq_some_iff.1 hx).1;simpa using this
 have hx':x=(ints (L (c*2)),ints (L (c*2+1))):=by simp[hc]at hx;exact hx.symm
 subst hx';refine⟨A (c*2),n (c*2),K' (c*2),A (c*2+1),n (c*2+1),K' (c*2+1),?_,(g2 _ U).sa.mono λz hz _=>.inr (g3 _ z U hz),(g2 _ U).sa.mono λz hz _=>.inr (g3 _ z U hz)⟩;apply List.ext_getElem?;intro i;show((((List.range (k*2)).map λs=>Value.slice (A s) (n s) (K' s)).drop (c*2)).take 2)[i]? = _;rw[List.getElem?_take];by_cases hi:i<2
 .rw[if_pos hi,List.getElem?_drop,List.getElem?_map,List.getElem?_range U]
  match i,hi with
  | 0,_=>rfl
  | 1,_=>rfl
 .rw[if_neg hi,List.getElem?_eq_none (by simp;omega)]
end
end Eva
end
section
open Go Go.RowKit
namespace Eva
def cN (f:Nat->List Value) (n:Nat):List Value:=(List.range n).flatMap f
section
variable {f:Nat->List Value}{n s k j:Nat}
theorem cq (f:Nat->List Value) (n:Nat):cN f (n+1)=cN f n ++ f n:=by
 unfold cN;rw[List.range_succ,List.flatMap_append];simp
theorem dQ (hf:∀k,(f k).length=s):∀n,(cN f n).length=n*s
 | 0=>by simp[cN]
 | n+1=>by rw[cq,List.length_append,dQ hf n,hf,Nat.succ_mul]
theorem kW {g:Nat->List Value}:∀n,(∀k,k<n->f k=g k)->cN f n=cN g n
 | 0,_=>rfl
 | n+1,h=>by rw[cq,cq,kW n λk hk=>h k U,h n U]
theorem wU (hf:∀k,(f k).length=s){v:List Value}(hv:v.length=s):∀n,k<n->(cN f n).take (k*s) ++ v ++ (cN f n).drop (k*s+s)=cN (upd f k v) n
 | 0,h=>absurd h U
 | n+1,h=>by
  have hl:=dQ hf n;rw[cq,cq];by_cases e:k=n
  .subst e;rw[List.take_append_of_le_length U,List.take_of_length_le U,List.drop_eq_nil_of_le (by rw[List.length_append,hf];omega),List.append_nil];have:cN (upd f k v) k=cN f k:=kW k λi hi=>by unfold upd;rw[if_neg U]
   rw[this];unfold upd;rw[if_pos rfl]
  .have hk:k<n:=U;have hm:(k+1)*s<=n*s:=Nat.mul_le_mul_right _ hk;rw[Nat.succ_mul]at hm;rw[List.take_append_of_le_length U,List.drop_append_of_le_length U,<-List.append_assoc,wU hf hv n hk];have:upd f k v n=f n:=by unfold upd;rw[if_neg U]
   rw[this]
theorem wV (hf:∀k,(f k).length=s) (hj:j<s) (x:Value):∀n,k<n->(cN f n).set (k*s+j) x=cN (upd f k ((f k).set j x)) n
 | 0,h=>absurd h U
 | n+1,h=>by
  have hl:=dQ hf n;rw[cq,cq];by_cases e:k=n
  .subst e;rw[List.set_append_right _ _ U,hl,Nat.add_sub_cancel_left];have:cN (upd f k ((f k).set j x)) k=cN f k:=kW k λi hi=>by unfold upd;rw[if_neg U]
   rw[this];unfold upd;rw[if_pos rfl]
  .have hk:k<n:=U;have hm:(k+1)*s<=n*s:=Nat.mul_le_mul_right _ hk;rw[Nat.succ_mul]at hm;rw[List.set_append_left _ _ U,wV hf hj x n hk];have:upd f k ((f k).set j x) n=f n:=by unfold upd;rw[if_neg U]
   rw[this]
theorem jp (hf:∀k,(f k).length=s):∀n,k<n->((cN f n).drop (k*s)).take s=f k
 | 0,h=>absurd h U
 | n+1,h=>by
  have hl:=dQ hf n;rw[cq];by_cases e:k=n
  .subst e;rw[List.drop_append_of_le_length U,List.drop_eq_nil_of_le U,List.nil_append,List.take_of_length_le (by rw[hf];omega)]
  .have hk:k<n:=U;have hm:(k+1)*s<=n*s:=Nat.mul_le_mul_right _ hk;rw[Nat.succ_mul]at hm;rw[List.drop_append_of_le_length U,List.take_append_of_le_length (by rw[List.length_drop];omega),jp hf n hk]
theorem wW (hf:∀k,(f k).length=s) (hk:k<n) (hj:j<s):(cN f n)[k*s+j]? = (f k)[j]?:=by
 have h1:=jp hf n hk;rw[<-h1,List.getElem?_take,if_pos hj,List.getElem?_drop]
theorem qR (l:List Value):∀n,dD n l=cN (λ_=>l) n
 | 0=>rfl
 | n+1=>by
  have e:∀n,cN (λ_=>l) (n+1)=l ++ cN (λ_=>l) n:=λn=>by
   induction n with
   | zero=>simp[cN]
   | succ n ih=>rw[cq,ih,List.append_assoc,<-cq,ih]
  rw[e];show l ++ dD n l=_;rw[qR l n]
end
section
variable {h h1 h2:AH}{b:Nat}{t:TypeId}{f:Nat->List Value}{n s k j:Nat}
theorem yS (hb:Bk h b (cN f n) t) (hf:∀k,(f k).length=s) (hk:k<n){v:List Value}(hv:v.length=s) (hfl:∀u∈v,flat u=true) :
  ∃h2,j0 h b (0+k*s) v=Y h2/\Bk h2 b (cN (upd f k v) n) t/\h2.next=h.next/\∀b',b'≠b->h2.get b' = h.get b':=by
 have hm:(k+1)*s<=n*s:=Nat.mul_le_mul_right _ hk;rw[Nat.succ_mul]at hm;refine⟨_,GW hb (by rw[dQ hf,Nat.zero_add,hv];exact hm) hfl,?_,rfl,λb' hb'=>by rw[get_put,if_neg hb']⟩;rw[Bk,get_put,if_pos rfl,Nat.zero_add,hv,wU hf hv n hk]
theorem Ag (hb:Bk h b (cN f n) t) (hf:∀k,(f k).length=s) (hk:k<n) (hj:j<s){x:Value}(hfl:flat x=true) :
  ∃h2,j0 h b (0+k*s+j) [x]=Y h2/\Bk h2 b (cN (upd f k ((f k).set j x)) n) t/\h2.next=h.next/\∀b',b'≠b->h2.get b' = h.get b':=by
 have hm:(k+1)*s<=n*s:=Nat.mul_le_mul_right _ hk;rw[Nat.succ_mul]at hm;obtain⟨h2,s2,b2,z2,o2⟩:=ax (v:=x) hb (o:=0+k*s+j) (by rw[dQ hf];omega) hfl;rw[Nat.zero_add,wV hf hj x n hk]at b2;exact⟨h2,s2,b2,z2,o2⟩
theorem nT {α:Type}{r:Rc α}{F:Nat->Prop}{o n K bytes:Nat}{xs:List α}(hr:qN r) (hT:tf Tryz.prog t r.size bytes=true) (hs:Sz r F h (Y ⟨b,o,η⟩) n K xs) (hn:n*bytes<1000000) (hn':n<1000000) (e1:h1=AH.new h (.cells [] t false)) :
  ∃A' K' h',ah Tryz.prog h1 (Y (.slice t)) (Y (.slice t)) (ω (Y ⟨h.next,0,η⟩) 0 0) (ω (Y ⟨b,o,η⟩) n K)=Y (ω A' n K',h')/\ay r h' (ai A') t A' n K' xs/\Nw h h'/\(∀z,ai A' z->h.next<=z):=by
 obtain⟨k1,g1,z1⟩:=aj e1;have hB:ay r h1 (ai (Y ⟨h.next,0,η⟩)) t (Y ⟨h.next,0,η⟩) 0 (2*0) []:=ay.lit (xs:=[]) (n:=0) g1 rfl U rfl (by simp) (by simp) (by simp);obtain⟨A',K',h',x1,x2,x3,x4⟩:=bq hr hT hB (hs.nw k1) (by rw[Nat.zero_add];omega) U;rw[Nat.zero_add]at x1 x2;rw[List.nil_append]at x2;refine⟨A',K',h',x1,x2,x3.is_nw k1 λb hb=>?_,λb hb=>?_⟩
 .have:b=h.next:=hb;omega
 .rcases x4 b hb with h2 | h2
  .have:b=h.next:=h2;omega
  .omega
end
section
variable {h:AH}{Q:Value->AH->Prop}{F:Nat->Prop}{A:Option Addr}{n K:Nat}
theorem wX {xs:List Int}(hs:Sa cI F h A n K xs) (hn:n<=100000) (hK:∀A' K' h',ay cI h' (ai A') 2 A' n K' xs->Nw h h'->(∀b,ai A' b->h.next<=b)->Q (ω A' n K') h'):WC Tryz.prog 260 [ω A n K] h Q:=by
 refine fq ⟨λhA=>?_,λhA=>?_⟩
 .obtain⟨h0,h1⟩:=hs.nil0 hA;refine⟨h0,h1,?_⟩;subst hA h0 h1;have hx:xs = []:=List.eq_nil_of_length_eq_zero hs.len;subst hx;exact hK η 0 h (ay.nil _ _ _ _) (Nw.refl _) (λb hb=>hb.elim)
 .obtain⟨b,o,rfl⟩:=hs.some_ hA;refine⟨b,o,rfl,λh1 e1=>?_⟩;obtain⟨A',K',h',x1,x2,x3,x4⟩:=nT (r:=cI) (bytes:=8) (t:=2) fY (by kernel_rfl) hs.z U U e1;exact⟨A',n,K',h',x1,hK _ _ _ x2 x3 x4⟩
theorem FU {xs:List fJ}(hs:Sa aS F h A n K xs) (hn:n<=4096) (hK:∀A' K' h',ay aS h' (ai A') 249 A' n K' xs->Nw h h'->(∀b,ai A' b->h.next<=b)->Q (ω A' n K') h'):WC Tryz.prog 261 [ω A n K] h Q:=by
 refine dJ ⟨λhA=>?_,λhA=>?_⟩
 .obtain⟨h0,h1⟩:=hs.nil0 hA;refine⟨h0,h1,?_⟩;subst hA h0 h1;have hx:xs = []:=List.eq_nil_of_length_eq_zero hs.len;subst hx;exact hK η 0 h (ay.nil _ _ _ _) (Nw.refl _) (λb hb=>hb.elim)
 .obtain⟨b,o,rfl⟩:=hs.some_ hA;refine⟨b,o,rfl,λh1 e1=>?_⟩;obtain⟨A',K',h',x1,x2,x3,x4⟩:=nT (r:=aS) (bytes:=24) (t:=249) (fB _ _ _) (by kernel_rfl) hs.z U U e1;exact⟨A',n,K',h',x1,hK _ _ _ x2 x3 x4⟩
theorem FV {xs:List fJ}(hs:Sa aS F h A n K xs) (hn:n<=16384) (hK:∀A' K' h',ay aS h' (ai A') 300 A' n K' xs->Nw h h'->(∀b,ai A' b->h.next<=b)->Q (ω A' n K') h'):WC Tryz.prog 262 [ω A n K] h Q:=by
 refine dX ⟨λhA=>?_,λhA=>?_⟩
 .obtain⟨h0,h1⟩:=hs.nil0 hA;refine⟨h0,h1,?_⟩;subst hA h0 h1;have hx:xs = []:=List.eq_nil_of_length_eq_zero hs.len;subst hx;exact hK η 0 h (ay.nil _ _ _ _) (Nw.refl _) (λb hb=>hb.elim)
 .obtain⟨b,o,rfl⟩:=hs.some_ hA;refine⟨b,o,rfl,λh1 e1=>?_⟩;obtain⟨A',K',h',x1,x2,x3,x4⟩:=nT (r:=aS) (bytes:=24) (t:=300) (fB _ _ _) (by kernel_rfl) hs.z U U e1;exact⟨A',n,K',h',x1,hK _ _ _ x2 x3 x4⟩
end
end Eva
end
end Go.Proofs.YtaagdjkinbemcaaGreatDoor
