/-
Lemmas for TopHops. No condition.
-/
import Derived.Test.YtmbadhdpcdbdbaaGreatDoorPc
import Derived.Lib.Hide
import Derived.Test.YtmbadhdpcdbdbaaGreatDoorPe
import Derived.Test.YtmbadhdpcdbdbaaGreatDoorPi
namespace Go.Proofs.YtmbadhdpcdbdbaaGreatDoor
open _root_.Go.IntKind renaming i64->η
open _root_.Go.Value renaming int->ψ,pointer->μ,slice->ξ
open _root_.Option renaming none->ν,some->ω
set_option linter.unusedVariables false
set_option linter.unusedSimpArgs false
set_option linter.unusedSectionVars false
set_option linter.unnecessarySimpa false
section
open Go Go.RowKit
namespace Eva
section
variable {h h' h'':AH}{b b' o:Nat}{ao:AO}{c:List Value}{e:TypeId}{f:Bool}{v:Value}
theorem get_new (h:AH) (ao:AO) (b:Nat):(h.new ao).get b=if b=h.next then ω ao else h.get b:=by
 show(h.t.set h.next (ω ao)).get b=_;by_cases e:b=h.next
 .subst e;rw[Tr.get_set,if_pos rfl]
 .rw[Tr.get_set_ne _ _ (λh=>e h.symm),if_neg e];rfl
theorem get_put (h:AH) (n:Nat) (ao:AO) (b:Nat):(h.put n ao).get b=if b=n then ω ao else h.get b:=by
 show(h.t.set n (ω ao)).get b=_;by_cases e:b=n
 .subst e;rw[Tr.get_set,if_pos rfl]
 .rw[Tr.get_set_ne _ _ (λh=>e h.symm),if_neg e];rfl
theorem get_del (h:AH) (n b:Nat):(h.del n).get b=if b=n then ν else h.get b:=by
 show(h.t.set n ν).get b=_;by_cases e:b=n
 .subst e;rw[Tr.get_set,if_pos rfl]
 .rw[Tr.get_set_ne _ _ (λh=>e h.symm),if_neg e];rfl
theorem go (h:AH) (ao:AO):(h.new ao).next=h.next+1:=rfl
theorem iL (h:AH) (n:Nat):(h.del n).next=h.next:=rfl
abbrev Bk (h:AH) (b:Nat) (c:List Value) (e:TypeId):Prop:=h.get b=ω (.cells c e false)
theorem aa (hb:h.get b=ω (.cells c e f)) (ho:c[o]? = ω v):ldC h b o=ω v:=by
 unfold ldC aY;rw[hb];exact ho
theorem aT (hb:h.get b=ω (.cells c e f)) (o:Nat):ldC h b o=c[o]?:=by
 unfold ldC aY;rw[hb]
theorem be (hb:h'.get b=h.get b) (o:Nat):ldC h' b o=ldC h b o:=by
 unfold ldC aY;rw[hb]
theorem sT {l:List Value}{o n:Nat}(hl:o+n<=l.length):nF l o n=ω ((l.drop o).take n):=by
 unfold nF;have:((l.drop o).take n).length=n:=by simp;omega
 simp only[this,Nat.beq_refl,cond_true]
theorem bX (hb:h.get b=ω (.cells c e f)){n:Nat}(ho:o+n<=c.length):au h b o n=ω ((c.drop o).take n):=by
 unfold au aY;rw[hb];exact sT ho
theorem mV (hl:ldC h b o=ω v):∃c e f,h.get b=ω (.cells c e f)/\c[o]? = ω v:=by
 unfold ldC aY at hl;cases hg:h.get b with
 | none=>rw[hg]at hl;cases hl
 | some ao=>
  rw[hg]at hl;cases ao with
  | cells c e f=>exact⟨c,e,f,rfl,hl⟩
  | map es k=>cases hl
  | iter s p=>cases hl
theorem jY {n:Nat}{l:List Value}(hl:l.length=n) (hn:0<n) (hc:∀j u,l[j]? = ω u->ldC h b (o+j)=ω u):au h b o n=ω l:=by
 have h0:=hc 0 (l[0]' U) (List.getElem?_eq_getElem U);obtain⟨c,e,f,hg,-⟩:=mV h0;have key:∀j u,l[j]? = ω u->c[o+j]? = ω u:=λj u hj=>by have:=hc j u hj;rwa [aT hg]at this
 have hlen:o+n<=c.length:=by
  have:=key (n - 1) (l[n - 1]' U) (List.getElem?_eq_getElem U);have:=(List.getElem?_eq_some_iff.1 this).1;omega
 rw[bX hg hlen]
 congr 1
 apply List.ext_getElem?;intro j;rw[List.getElem?_take,List.getElem?_drop];by_cases hj:j<n
 .rw[if_pos hj,key j l[j] (List.getElem?_eq_getElem U),List.getElem?_eq_getElem U]
 .rw[if_neg hj,List.getElem?_eq_none U]
theorem nu:∀(c:List Value) (o:Nat) (vs:List Value),o+vs.length<=c.length->ii c o vs=ω (c.take o ++ vs ++ c.drop (o+vs.length))
 | c,o,[],_=>by cases c <;>simp[ii]
 | [],o,v :: vs,hl=>by simp at hl
 | x :: c,0,v :: vs,hl=>by
  show(ii c 0 vs).map (v :: ·)=_;rw[nu c 0 vs (by simp at hl;simp;omega)];simp
 | x :: c,o+1,v :: vs,hl=>by
  show(ii c o (v :: vs)).map (x :: ·)=_;rw[nu c o (v :: vs) (by simp at hl;simp;omega)];rw[show o+1+(v :: vs).length=(o+(v :: vs).length)+1 by omega,List.drop_succ_cons];rfl
theorem BK {o:Nat}(ho:o<c.length):ii c o [v]=ω (c.set o v):=by
 rw[nu c o [v] (by simp;omega)]
 congr 1
 rw[List.set_eq_take_append_cons_drop,if_pos ho];simp
theorem st1 (hb:Bk h b c e) (ho:o<c.length) (hf:flat v=true):iE h b o [v]=ω (h.put b (.cells (c.set o v) e false)):=by
 unfold iE da;simp only;rw[hb];simp only;have:aU flat [v]=true:=by unfold aU;simp only[hf];rfl
 rw[this,BK ho];rfl
theorem pn {α:Type}{p:α->Bool}:∀{l:List α},(∀x∈l,p x=true)->aU p l=true
 | [],_=>rfl
 | x :: l,hl=>by
  show cond (p x) (aU p l) false=true;rw[hl x (by simp),pn λy hy=>hl y (List.mem_cons_of_mem _ hy)];rfl
theorem Fc {vs:List Value}(hb:Bk h b c e) (ho:o+vs.length<=c.length) (hf:∀v∈vs,flat v=true):iE h b o vs=ω (h.put b (.cells (c.take o ++ vs ++ c.drop (o+vs.length)) e false)):=by
 unfold iE da;simp only;rw[hb];simp only;rw[pn hf,nu c o vs ho];rfl
structure Nw (h h':AH):Prop where
 next:h.next<=h'.next
 get:∀b,b<h.next->h'.get b=h.get b
theorem Nw.refl (h:AH):Nw h h:=⟨Nat.le_refl _,λ_ _=>rfl⟩
theorem Nw.trans (a:Nw h h') (k:Nw h' h''):Nw h h'':=⟨Nat.le_trans a.next k.next,λb hb=>(k.get b (Nat.lt_of_lt_of_le hb a.next)).trans (a.get b hb)⟩
theorem Nw.new (h:AH) (ao:AO):Nw h (h.new ao):=⟨Nat.le_succ _,λb hb=>by rw[get_new,if_neg U]⟩
theorem Nw.put (a:Nw h h'){n:Nat}(hn:h.next<=n) (ao:AO):Nw h (h'.put n ao):=⟨a.next,λb hb=>by rw[get_put,if_neg U];exact a.get b hb⟩
theorem Nw.ldC (a:Nw h h') (hb:b<h.next) (o:Nat):ldC h' b o=Eva.ldC h b o:=be (a.get b hb) o
theorem Nw.bk (a:Nw h h') (hb:b<h.next) (hk:Bk h b c e):Bk h' b c e:=(a.get b hb).trans hk
theorem aj (e1:h' = h.new ao):Nw h h'/\h'.get h.next=ω ao/\h'.next=h.next+1:=by
 subst e1;exact⟨Nw.new h ao,by rw[get_new,if_pos rfl],rfl⟩
structure Mt (S:Nat->Prop) (h h':AH):Prop where
 next:h.next<=h'.next
 get:∀b,b<h.next->¬S b->h'.get b=h.get b
section
variable {S S':Nat->Prop}
theorem Mt.refl (S:Nat->Prop) (h:AH):Mt S h h:=⟨Nat.le_refl _,λ_ _ _=>rfl⟩
theorem Mt.of (a:Nw h h'):Mt S h h':=⟨a.next,λb hb _=>a.get b hb⟩
theorem Mt.trans (a:Mt S h h') (k:Mt S' h' h'') (hS:∀b,S' b->b<h.next->S b):Mt S h h'':=⟨Nat.le_trans a.next k.next,λb hb hn=>(k.get b (Nat.lt_of_lt_of_le hb a.next) (λhs=>hn (hS b hs hb))).trans (a.get b hb hn)⟩
theorem Mt.then (a:Mt S h h') (k:Mt S h' h''):Mt S h h'':=a.trans k λ_ h _=>h
theorem Mt.nw (a:Mt S h h') (k:Nw h' h''):Mt S h h'':=a.then (.of k)
theorem Mt.mono (a:Mt S h h') (hS:∀b,S b->b<h.next->S' b):Mt S' h h':=⟨a.next,λb hb hn=>a.get b hb (λhs=>hn (hS b hs hb))⟩
theorem Mt.is_nw {h0:AH}(a:Mt S h h') (k:Nw h0 h) (hS:∀b,S b->h0.next<=b):Nw h0 h':=⟨Nat.le_trans k.next a.next,λb hb=>(a.get b (Nat.lt_of_lt_of_le hb k.next) (λhs=>by have:=hS b hs;omega)).trans (k.get b hb)⟩
theorem Mt.bk (a:Mt S h h') (hb:b<h.next) (hs:¬S b) (hk:Bk h b c e):Bk h' b c e:=(a.get b hb hs).trans hk
theorem Mt.ldC (a:Mt S h h') (hb:b<h.next) (hs:¬S b) (o:Nat):ldC h' b o=Eva.ldC h b o:=be (a.get b hb hs) o
end
end
structure Rc (α:Type) where
 size:Nat
 rel:(Nat->Prop)->AH->List Value->α->Prop
 len:∀{F h cs x},rel F h cs x->cs.length=size
 flat:∀{F h cs x},rel F h cs x->∀u∈cs,flat u=true
 keep:∀{F h h' cs x},(∀b,F b->b<h.next->h'.get b=h.get b)->h.next<=h'.next->rel F h cs x->rel F h' cs x
 mono:∀{F G h cs x},(∀b,F b->b<h.next->G b)->rel F h cs x->rel G h cs x
structure Sz {α:Type}(r:Rc α) (F:Nat->Prop) (h:AH) (A:Option Addr) (n K:Nat) (xs:List α):Prop where
 len:xs.length=n
 at_:0<n->∃b o,A=ω ⟨b,o,ν⟩/\F b/\b<h.next/\∀k x,xs[k]? = ω x->∃cs,(∀j u,cs[j]? = ω u->ldC h b (o+(k*r.size+j))=ω u)/\r.rel F h cs x
structure Sa {α:Type}(r:Rc α) (F:Nat->Prop) (h:AH) (A:Option Addr) (n K:Nat) (xs:List α):Prop where
 len:xs.length=n
 shape:(A=ν/\n=0/\K=0)\/∃b o,A=ω ⟨b,o,ν⟩
 at_:0<n->∃b o,A=ω ⟨b,o,ν⟩/\F b/\b<h.next/\∀k x,xs[k]? = ω x->∃cs,(∀j u,cs[j]? = ω u->ldC h b (o+(k*r.size+j))=ω u)/\r.rel F h cs x
section
variable {α:Type}{r:Rc α}{F G S:Nat->Prop}{h h':AH}{A:Option Addr}{n K:Nat}{xs:List α}
theorem Sa.keep (hs:Sa r F h A n K xs) (hk:∀b,F b->b<h.next->h'.get b=h.get b) (hn:h.next<=h'.next):Sa r F h' A n K xs:=by
 refine⟨hs.len,hs.shape,λh0=>?_⟩;obtain⟨b,o,hA,hF,hb,hx⟩:=hs.at_ h0;refine⟨b,o,hA,hF,Nat.lt_of_lt_of_le hb hn,λk x hkx=>?_⟩;obtain⟨cs,hc,hr⟩:=hx k x hkx;exact⟨cs,λj u hu=>(be (hk b hF hb) _).trans (hc j u hu),r.keep hk hn hr⟩
theorem Sa.nw (hs:Sa r F h A n K xs) (a:Nw h h'):Sa r F h' A n K xs:=hs.keep (λb _ hb=>a.get b hb) a.next
theorem Sa.off (hs:Sa r F h A n K xs) (a:Mt S h h') (hS:∀b,F b->¬S b):Sa r F h' A n K xs:=hs.keep (λb hF hb=>a.get b hb (hS b hF)) a.next
theorem Sa.mono (hs:Sa r F h A n K xs) (hFG:∀b,F b->b<h.next->G b):Sa r G h A n K xs:=by
 refine⟨hs.len,hs.shape,λh0=>?_⟩;obtain⟨b,o,hA,hF,hb,hx⟩:=hs.at_ h0;refine⟨b,o,hA,hFG b hF hb,hb,λk x hkx=>?_⟩;obtain⟨cs,hc,hr⟩:=hx k x hkx;exact⟨cs,hc,r.mono hFG hr⟩
theorem Sa.nil (r:Rc α) (F:Nat->Prop) (h:AH):Sa r F h ν 0 0 []:=⟨rfl,.inl ⟨rfl,rfl,rfl⟩,λh=>absurd h U⟩
theorem Sa.nil0 (hs:Sa r F h A n K xs) (hA:A=ν):n=0/\K=0:=by
 rcases hs.shape with⟨_,h1,h2⟩ | ⟨b,o,h1⟩
 .exact⟨h1,h2⟩
 .rw[hA]at h1;cases h1
theorem Sa.some_ (hs:Sa r F h A n K xs) (hA:A≠ν):∃b o,A=ω ⟨b,o,ν⟩:=by
 rcases hs.shape with⟨h1,_,_⟩ | h1
 .exact absurd h1 hA
 .exact h1
theorem Sa.eqok (hs:Sa r F h A n K xs):aS (ξ A n K):=by
 rcases hs.shape with⟨rfl,_,_⟩ | ⟨b,o,rfl⟩
 .trivial
 .rfl
theorem Sa.z (hs:Sa r F h A n K xs):Sz r F h A n K xs:=⟨hs.len,hs.at_⟩
theorem Sz.keep (hs:Sz r F h A n K xs) (hk:∀b,F b->b<h.next->h'.get b=h.get b) (hn:h.next<=h'.next):Sz r F h' A n K xs:=by
 refine⟨hs.len,λh0=>?_⟩;obtain⟨b,o,hA,hF,hb,hx⟩:=hs.at_ h0;refine⟨b,o,hA,hF,Nat.lt_of_lt_of_le hb hn,λk x hkx=>?_⟩;obtain⟨cs,hc,hr⟩:=hx k x hkx;exact⟨cs,λj u hu=>(be (hk b hF hb) _).trans (hc j u hu),r.keep hk hn hr⟩
theorem Sz.nw (hs:Sz r F h A n K xs) (a:Nw h h'):Sz r F h' A n K xs:=hs.keep (λb _ hb=>a.get b hb) a.next
theorem Sz.off (hs:Sz r F h A n K xs) (a:Mt S h h') (hS:∀b,F b->¬S b):Sz r F h' A n K xs:=hs.keep (λb hF hb=>a.get b hb (hS b hF)) a.next
theorem Sz.mono (hs:Sz r F h A n K xs) (hFG:∀b,F b->b<h.next->G b):Sz r G h A n K xs:=by
 refine⟨hs.len,λh0=>?_⟩;obtain⟨b,o,hA,hF,hb,hx⟩:=hs.at_ h0;refine⟨b,o,hA,hFG b hF hb,hb,λk x hkx=>?_⟩;obtain⟨cs,hc,hr⟩:=hx k x hkx;exact⟨cs,hc,r.mono hFG hr⟩
theorem Sz.get (hs:Sz r F h A n K xs){k:Nat}(hk:k<n):∃b o x cs,A=ω ⟨b,o,ν⟩/\F b/\b<h.next/\xs[k]? = ω x/\(∀j u,cs[j]? = ω u->ldC h b (o+(k*r.size+j))=ω u)/\r.rel F h cs x:=by
 obtain⟨b,o,hA,hF,hb,hx⟩:=hs.at_ U;have hl:k<xs.length:=by rw[hs.len];exact hk
 obtain⟨cs,hc,hr⟩:=hx k xs[k] (List.getElem?_eq_getElem hl);exact⟨b,o,xs[k],cs,hA,hF,hb,List.getElem?_eq_getElem hl,hc,hr⟩
theorem Sa.get (hs:Sa r F h A n K xs){k:Nat}(hk:k<n):∃b o x cs,A=ω ⟨b,o,ν⟩/\F b/\b<h.next/\xs[k]? = ω x/\(∀j u,cs[j]? = ω u->ldC h b (o+(k*r.size+j))=ω u)/\r.rel F h cs x:=by
 obtain⟨b,o,hA,hF,hb,hx⟩:=hs.at_ U;have hl:k<xs.length:=by rw[hs.len];exact hk
 obtain⟨cs,hc,hr⟩:=hx k xs[k] (List.getElem?_eq_getElem hl);exact⟨b,o,xs[k],cs,hA,hF,hb,List.getElem?_eq_getElem hl,hc,hr⟩
end
def Rc.int (k:IntKind):Rc Int where
 size:=1
 rel:=λ_ _ cs x=>cs = [.int k x]
 len:=λh=>by rw[h];rfl
 flat:=λh u hu=>by rw[h]at hu;simp at hu;subst hu;rfl
 keep:=λ_ _ h=>h
 mono:=λ_ h=>h
def Rc.bool:Rc Bool where
 size:=1
 rel:=λ_ _ cs x=>cs = [.bool x]
 len:=λh=>by rw[h];rfl
 flat:=λh u hu=>by rw[h]at hu;simp at hu;subst hu;rfl
 keep:=λ_ _ h=>h
 mono:=λ_ h=>h
def Rc.slice {α:Type}(r:Rc α):Rc (List α) where
 size:=1
 rel:=λF h cs xs=>∃A n K,cs = [ξ A n K]/\Sa r F h A n K xs
 len:=λ⟨_,_,_,h,_⟩=>by rw[h];rfl
 flat:=λ⟨_,_,_,h,_⟩ u hu=>by rw[h]at hu;simp at hu;subst hu;rfl
 keep:=λhk hn ⟨A,n,K,h,hs⟩=>⟨A,n,K,h,hs.keep hk hn⟩
 mono:=λhFG ⟨A,n,K,h,hs⟩=>⟨A,n,K,h,hs.mono hFG⟩
def Rc.sliceZ {α:Type}(r:Rc α):Rc (List α) where
 size:=1
 rel:=λF h cs xs=>∃A n K,cs = [ξ A n K]/\Sz r F h A n K xs
 len:=λ⟨_,_,_,h,_⟩=>by rw[h];rfl
 flat:=λ⟨_,_,_,h,_⟩ u hu=>by rw[h]at hu;simp at hu;subst hu;rfl
 keep:=λhk hn ⟨A,n,K,h,hs⟩=>⟨A,n,K,h,hs.keep hk hn⟩
 mono:=λhFG ⟨A,n,K,h,hs⟩=>⟨A,n,K,h,hs.mono hFG⟩
def Rc.tableZ:Rc (Int×Int×List Int) where
 size:=3
 rel:=λF h cs x=>∃A n K,cs = [ψ η x.1,ψ η x.2.1,ξ A n K]/\Sz (Rc.int .i64) F h A n K x.2.2
 len:=λ⟨_,_,_,h,_⟩=>by rw[h];rfl
 flat:=λ⟨_,_,_,h,_⟩ u hu=>by rw[h]at hu;simp at hu;rcases hu with rfl | rfl | rfl <;>rfl
 keep:=λhk hn ⟨A,n,K,h,hs⟩=>⟨A,n,K,h,hs.keep hk hn⟩
 mono:=λhFG ⟨A,n,K,h,hs⟩=>⟨A,n,K,h,hs.mono hFG⟩
def Rc.pair (k k':IntKind):Rc (Int×Int) where
 size:=2
 rel:=λ_ _ cs x=>cs = [.int k x.1,.int k' x.2]
 len:=λh=>by rw[h];rfl
 flat:=λh u hu=>by rw[h]at hu;simp at hu;rcases hu with rfl | rfl <;>rfl
 keep:=λ_ _ h=>h
 mono:=λ_ h=>h
def Rc.tri (k k' k'':IntKind):Rc (Int×Int×Int) where
 size:=3
 rel:=λ_ _ cs x=>cs = [.int k x.1,.int k' x.2.1,.int k'' x.2.2]
 len:=λh=>by rw[h];rfl
 flat:=λh u hu=>by rw[h]at hu;simp at hu;rcases hu with rfl | rfl | rfl <;>rfl
 keep:=λ_ _ h=>h
 mono:=λ_ h=>h
def Rc.table:Rc (Int×Int×List Int) where
 size:=3
 rel:=λF h cs x=>∃A n K,cs = [ψ η x.1,ψ η x.2.1,ξ A n K]/\Sa (Rc.int .i64) F h A n K x.2.2
 len:=λ⟨_,_,_,h,_⟩=>by rw[h];rfl
 flat:=λ⟨_,_,_,h,_⟩ u hu=>by rw[h]at hu;simp at hu;rcases hu with rfl | rfl | rfl <;>rfl
 keep:=λhk hn ⟨A,n,K,h,hs⟩=>⟨A,n,K,h,hs.keep hk hn⟩
 mono:=λhFG ⟨A,n,K,h,hs⟩=>⟨A,n,K,h,hs.mono hFG⟩
def Rc.gate:Rc (List Int×List Int) where
 size:=2
 rel:=λF h cs x=>∃A n K B m L,cs = [ξ A n K,.slice B m L]/\Sa (Rc.int .i64) F h A n K x.1/\Sa (Rc.int .i64) F h B m L x.2
 len:=λ⟨_,_,_,_,_,_,h,_,_⟩=>by rw[h];rfl
 flat:=λ⟨_,_,_,_,_,_,h,_,_⟩ u hu=>by rw[h]at hu;simp at hu;rcases hu with rfl | rfl <;>rfl
 keep:=λhk hn ⟨A,n,K,B,m,L,h,h1,h2⟩=>⟨A,n,K,B,m,L,h,h1.keep hk hn,h2.keep hk hn⟩
 mono:=λhFG ⟨A,n,K,B,m,L,h,h1,h2⟩=>⟨A,n,K,B,m,L,h,h1.mono hFG,h2.mono hFG⟩
abbrev cI:Rc Int:=Rc.int .i64
abbrev bh:Rc (List Int):=Rc.slice cI
section
variable {F:Nat->Prop}{h:AH}{A:Option Addr}{n K:Nat}
theorem Sa.int {xs:List Int}(hs:Sa cI F h A n K xs){k:Nat}(hk:k<n):∃b o x,A=ω ⟨b,o,ν⟩/\F b/\b<h.next/\xs[k]? = ω x/\ldC h b (o+k)=ω (ψ η x):=by
 obtain⟨b,o,x,cs,hA,hF,hb,hx,hc,hr⟩:=hs.get hk;refine⟨b,o,x,hA,hF,hb,hx,?_⟩;have hr':cs = [ψ η x]:=hr;have:=hc 0 (ψ η x) (by rw[hr'];rfl);simpa[Rc.int]using this
theorem Sa.bool {xs:List Bool}(hs:Sa Rc.bool F h A n K xs){k:Nat}(hk:k<n):∃b o x,A=ω ⟨b,o,ν⟩/\F b/\b<h.next/\xs[k]? = ω x/\ldC h b (o+k)=ω (.bool x):=by
 obtain⟨b,o,x,cs,hA,hF,hb,hx,hc,hr⟩:=hs.get hk;refine⟨b,o,x,hA,hF,hb,hx,?_⟩;have hr':cs = [.bool x]:=hr;have:=hc 0 (.bool x) (by rw[hr'];rfl);simpa[Rc.bool]using this
theorem Sa.row {α:Type}{r:Rc α}{xs:List (List α)}(hs:Sa (Rc.slice r) F h A n K xs){k:Nat}(hk:k<n):∃b o A' n' K' x,A=ω ⟨b,o,ν⟩/\F b/\b<h.next/\xs[k]? = ω x/\ldC h b (o+k)=ω (ξ A' n' K')/\Sa r F h A' n' K' x:=by
 obtain⟨b,o,x,cs,hA,hF,hb,hx,hc,A',n',K',hcs,hs'⟩:=hs.get hk;refine⟨b,o,A',n',K',x,hA,hF,hb,hx,?_,hs'⟩;have:=hc 0 (ξ A' n' K') (by rw[hcs];rfl);simpa[Rc.slice]using this
theorem Sa.pair {xs:List (Int×Int)}(hs:Sa (Rc.pair .i64 .i64) F h A n K xs){k:Nat}(hk:k<n):∃b o x y,A=ω ⟨b,o,ν⟩/\F b/\b<h.next/\xs[k]? = ω (x,y)/\ldC h b (o+k*2)=ω (ψ η x)/\ldC h b (o+k*2+1)=ω (ψ η y):=by
 obtain⟨b,o,x,cs,hA,hF,hb,hx,hc,hr⟩:=hs.get hk;have hr':cs = [ψ η x.1,ψ η x.2]:=hr;have h0:=hc 0 (ψ η x.1) (by rw[hr'];rfl);have h1:=hc 1 (ψ η x.2) (by rw[hr'];rfl);exact⟨b,o,x.1,x.2,hA,hF,hb,hx,by simpa[Rc.pair]using h0,by simpa[Rc.pair,Nat.add_assoc]using h1⟩
theorem Sa.tri {xs:List (Int×Int×Int)}(hs:Sa (Rc.tri .i64 .i64 .i64) F h A n K xs){k:Nat}(hk:k<n):∃b o x y z,A=ω ⟨b,o,ν⟩/\F b/\b<h.next/\xs[k]? = ω (x,y,z)/\ldC h b (o+k*3)=ω (ψ η x)/\ldC h b (o+k*3+1)=ω (ψ η y)/\ldC h b (o+k*3+2)=ω (ψ η z):=by
 obtain⟨b,o,x,cs,hA,hF,hb,hx,hc,hr⟩:=hs.get hk;have hr':cs = [ψ η x.1,ψ η x.2.1,ψ η x.2.2]:=hr;have h0:=hc 0 (ψ η x.1) (by rw[hr'];rfl);have h1:=hc 1 (ψ η x.2.1) (by rw[hr'];rfl);have h2:=hc 2 (ψ η x.2.2) (by rw[hr'];rfl);exact⟨b,o,x.1,x.2.1,x.2.2,hA,hF,hb,hx,by simpa[Rc.tri]using h0,by simpa[Rc.tri,Nat.add_assoc]using h1,by simpa[Rc.tri,Nat.add_assoc]using h2⟩
theorem Sa.table {xs:List (Int×Int×List Int)}(hs:Sa Rc.table F h A n K xs){k:Nat}(hk:k<n):∃b o x y A' n' K' zs,A=ω ⟨b,o,ν⟩/\F b/\b<h.next/\xs[k]? = ω (x,y,zs)/\ldC h b (o+k*3)=ω (ψ η x)/\ldC h b (o+k*3+1)=ω (ψ η y)/\ldC h b (o+k*3+2)=ω (ξ A' n' K')/\Sa cI F h A' n' K' zs:=by
 obtain⟨b,o,x,cs,hA,hF,hb,hx,hc,A',n',K',hr',hs'⟩:=hs.get hk;have h0:=hc 0 (ψ η x.1) (by rw[hr'];rfl);have h1:=hc 1 (ψ η x.2.1) (by rw[hr'];rfl);have h2:=hc 2 (ξ A' n' K') (by rw[hr'];rfl);exact⟨b,o,x.1,x.2.1,A',n',K',x.2.2,hA,hF,hb,hx,by simpa[Rc.table]using h0,by simpa[Rc.table,Nat.add_assoc]using h1,by simpa[Rc.table,Nat.add_assoc]using h2,hs'⟩
theorem Sa.gate {xs:List (List Int×List Int)}(hs:Sa Rc.gate F h A n K xs){k:Nat}(hk:k<n):∃b o A1 n1 K1 A2 n2 K2 x y,A=ω ⟨b,o,ν⟩/\F b/\b<h.next/\xs[k]? = ω (x,y)/\ldC h b (o+k*2)=ω (ξ A1 n1 K1)/\ldC h b (o+k*2+1)=ω (ξ A2 n2 K2)/\Sa cI F h A1 n1 K1 x/\Sa cI F h A2 n2 K2 y:=by
 obtain⟨b,o,x,cs,hA,hF,hb,hx,hc,A1,n1,K1,A2,n2,K2,hr',s1,s2⟩:=hs.get hk;have h0:=hc 0 (ξ A1 n1 K1) (by rw[hr'];rfl);have h1:=hc 1 (ξ A2 n2 K2) (by rw[hr'];rfl);exact⟨b,o,A1,n1,K1,A2,n2,K2,x.1,x.2,hA,hF,hb,hx,by simpa[Rc.gate]using h0,by simpa[Rc.gate,Nat.add_assoc]using h1,s1,s2⟩
theorem Sz.cells {α:Type}{r:Rc α}{xs:List α}(hs:Sz r F h A n K xs) (hn:0<n):∃(b o:Nat) (cells:List Value),A=ω ⟨b,o,ν⟩/\F b/\b<h.next/\cells.length=n*r.size/\(∀j u,cells[j]? = ω u->ldC h b (o+j)=ω u)/\(∀u∈cells,flat u=true)/\
  ∀k x,xs[k]? = ω x->r.rel F h ((cells.drop (k*r.size)).take r.size) x:=by
 obtain⟨b,o,hA,hF,hb,hx⟩:=hs.at_ hn;have key:∀(l:List α) (k0:Nat),(∀k x,l[k]? = ω x->xs[k0+k]? = ω x)->∃cells:List Value,cells.length=l.length*r.size/\(∀j u,cells[j]? = ω u->ldC h b (o+(k0*r.size+j))=ω u)/\(∀u∈cells,flat u=true)/\
   ∀k x,l[k]? = ω x->r.rel F h ((cells.drop (k*r.size)).take r.size) x:=by
  intro l
  induction l with
  | nil=>exact λk0 _=>⟨[],by simp,by simp,by simp,by simp⟩
  | cons y l ih=>
   intro k0 hl;obtain⟨cells,h1,h2,h3,h4⟩:=ih (k0+1) λk x hk=>by
    have:=hl (k+1) x (by simpa using hk)
    rwa [show k0+(k+1)=k0+1+k by omega]at this
   obtain⟨cs,hc,hr'⟩:=hx k0 y (by have:=hl 0 y rfl;simpa using this);have hlen:=r.len hr';refine⟨cs ++ cells,by rw[List.length_append,h1,hlen,List.length_cons,Nat.succ_mul,Nat.add_comm],λj u hj=>?_,λu hu=>?_,λk x hk=>?_⟩
   .rw[List.getElem?_append]at hj
    split at hj
    .exact hc j u hj
    .rename_i hlt;have:=h2 _ u hj
     rwa [show o+((k0+1)*r.size+(j - cs.length))=o+(k0*r.size+j) by rw[hlen]at *;rw[Nat.succ_mul];omega]at this
   .rcases List.mem_append.1 hu with hu | hu
    .exact r.flat hr' u hu
    .exact h3 u hu
   .cases k with
    | zero=>
     simp at hk;subst hk;rw[Nat.zero_mul,List.drop_zero,<-hlen,List.take_left];exact hr'
    | succ k=>
     have h5:=h4 k x (by simpa using hk);rw[show(k+1)*r.size=cs.length+k*r.size by rw[hlen,Nat.succ_mul,Nat.add_comm],<-List.drop_drop,List.drop_left];exact h5
 obtain⟨cells,h1,h2,h3,h4⟩:=key xs 0 (λk x hk=>by simpa using hk);exact⟨b,o,cells,hA,hF,hb,by rw[h1,hs.len],λj u hj=>by simpa using h2 j u hj,h3,h4⟩
theorem Sa.cells {α:Type}{r:Rc α}{xs:List α}(hs:Sa r F h A n K xs) (hn:0<n):∃(b o:Nat) (cells:List Value),A=ω ⟨b,o,ν⟩/\F b/\b<h.next/\cells.length=n*r.size/\(∀j u,cells[j]? = ω u->ldC h b (o+j)=ω u)/\(∀u∈cells,flat u=true)/\
  ∀k x,xs[k]? = ω x->r.rel F h ((cells.drop (k*r.size)).take r.size) x:=hs.z.cells hn
theorem Sa.of_bk {α:Type}{r:Rc α}{xs:List α}{g:Nat}{e:TypeId}{f:Bool}{c:List Value}(hb:h.get g=ω (.cells c e f)) (hl:xs.length=n) (hF:F g) (hg:g<h.next) (hx:∀k x,xs[k]? = ω x->r.rel F h ((c.drop (k*r.size)).take r.size) x):Sa r F h (ω ⟨g,0,ν⟩) n K xs:=by
 refine⟨hl,.inr ⟨_,_,rfl⟩,λ_=>⟨g,0,rfl,hF,hg,λk x hk=>⟨_,λj u hu=>?_,hx k x hk⟩⟩⟩;rw[aT hb];rw[List.getElem?_take]at hu
 split at hu
 .rwa [List.getElem?_drop,<-Nat.zero_add (k*r.size+j)]at hu
 .cases hu
theorem di {α:Type}{l:List α}{k:Nat}{a:α}(h:l[k]? = ω a):(l.drop k).take 1 = [a]:=by
 have hk:k<l.length:=(List.getElem?_eq_some_iff.1 h).1;rw[List.drop_eq_getElem_cons hk];simp[(List.getElem?_eq_some_iff.1 h).2]
theorem Sa.of_ints {xs:List Int}{g:Nat}{e:TypeId}{f:Bool}{k:IntKind}(hb:h.get g=ω (.cells (xs.map (Value.int k)) e f)) (hl:xs.length=n) (hF:F g) (hg:g<h.next):Sa (Rc.int k) F h (ω ⟨g,0,ν⟩) n K xs:=
 Sa.of_bk hb hl hF hg λi x hx=>by
  show(((xs.map (Value.int k)).drop (i*1)).take 1)=_;rw[Nat.mul_one];exact di (by simp[hx])
end
def uH (P:Program) (e:TypeId) (size bytes:Nat):Bool:=
 match P.info? e with
 | some i=>Nat.beq i.size size && Nat.beq i.bytes bytes && !(Nat.beq i.size 0) && Nat.blt i.bytes 1000000 && fU i
 | none=>false
theorem a9 (z:Value) (n:Nat):dJ n [z]=List.replicate n z:=by
 induction n with
 | zero=>rfl
 | succ n ih=>
  show [z] ++ dJ n [z]=_;rw[ih];rfl
section
variable {P:Program}{h h':AH}{e:TypeId}{size bytes n m K L:Nat}{A B:Option Addr}{cells old:List Value}
theorem jw (hl:cells.length=m*size) (hc:0<m->∃b o,B=ω ⟨b,o,ν⟩/\∀j u,cells[j]? = ω u->ldC h b (o+j)=ω u):fp h size m (.slice B m L)=ω cells:=by
 unfold fp;rcases Nat.eq_zero_or_pos m with h0 | h0
 .subst h0;have:cells = []:=List.eq_nil_of_length_eq_zero (by simpa using hl);subst this;cases B with
  | none=>rfl
  | some a=>simp
 .obtain⟨b,o,rfl,hc'⟩:=hc h0;simp only;rcases Nat.eq_zero_or_pos (m*size) with h1 | h1
  .have:cells = []:=List.eq_nil_of_length_eq_zero U;subst this;rw[h1];rfl
  .have hb:Nat.beq (m*size) 0=false:=by
    cases hb:Nat.beq (m*size) 0 with
    | false=>rfl
    | true=>have:=av hb;omega
   rw[hb];simp only[cond_false];have:=jY (h:=h) (b:=b) (o:=o) hl h1 hc';unfold au at this;unfold jo;cases hca:aY h b with
   | none=>rw[hca]at this;cases this
   | some t=>rw[hca]at this;exact this
theorem bo (hT:uH P e size bytes=true):∃i,P.info? e=ω i/\i.size=size/\i.bytes=bytes/\0<size/\bytes<1000000/\Nat.beq i.size 0=false/\Nat.blt i.bytes 1000000=true/\fU i=true:=by
 unfold uH at hT;cases hi:P.info? e with
 | none=>rw[hi]at hT;cases hT
 | some i=>
  rw[hi]at hT;simp only[Bool.and_eq_true,Bool.not_eq_true']at hT;obtain⟨⟨⟨⟨h1,h2⟩,h3⟩,h4⟩,h5⟩:=hT;have e1:=av h1;have e2:=av h2;refine⟨i,rfl,e1,e2,?_,?_,h3,h4,h5⟩
  .rcases Nat.eq_zero_or_pos size with h0 | h0
   .rw[e1,h0]at h3;cases h3
   .exact h0
  .rw[<-e2];exact Nat.le_of_ble_eq_true h4
theorem xU {i:TypeInfo}(h1:i.size=size) (h2:i.bytes=bytes) (h6:Nat.beq i.size 0=false) (h7:Nat.blt i.bytes 1000000=true) (h8:fU i=true) (hl:cells.length=m*size) (hf:∀u∈cells,flat u=true) (hb:(n+m)*bytes<70000000000000) (hn:n+m<70000000000000) :
  yy h e i A n K m cells=cond (Nat.ble (n+m) (K / 2)) (nR h i.size A n K m cells) (fG h e i.size A n K m cells):=by
 unfold yy;have b1:Nat.blt ((n+m)*i.bytes) 70000000000000=true:=by rw[h2];exact Nat.ble_eq_true_of_le hb
 have b2:Nat.blt (n+m) 70000000000000=true:=Nat.ble_eq_true_of_le hn;have b3:Nat.beq cells.length (m*i.size)=true:=by rw[h1,hl];exact Nat.beq_refl _
 rw[pn hf,b1,b2,b3,h6,h7,h8];rfl
theorem kV (hT:uH P e size bytes=true) (hl:cells.length=m*size) (hf:∀u∈cells,flat u=true) (hc:0<m->∃b o,B=ω ⟨b,o,ν⟩/\∀j u,cells[j]? = ω u->ldC h b (o+j)=ω u) (hb:(n+m)*bytes<70000000000000) (hn:n+m<70000000000000) :
  ai P h (ω (.slice e)) (ω (.slice e)) (ξ A n K) (.slice B m L)=cond (Nat.ble (n+m) (K / 2)) (nR h size A n K m cells) (fG h e size A n K m cells):=by
 obtain⟨i,hi,h1,h2,h3,h4,h6,h7,h8⟩:=bo hT;have hx:=jw (L:=L) hl hc;unfold ai;simp only[hi];have hsrc:nT h i.size (.slice B m L)=ω (m,cells):=by
  unfold nT;show(match fp h i.size m (.slice B m L) with | some l=>ω (m,l) | none=>ν)=_;rw[h1,hx]
 show nd i e h (ξ A n K) (nT h i.size (.slice B m L))=_;rw[hsrc];show yy h e i A n K m cells=_;rw[xU h1 h2 h6 h7 h8 hl hf hb hn,h1]
end
def ah:Option Addr->Nat->Prop
 | some a,b=>b=a.block
 | none,_=>False
end Eva
end
section
open Go Go.RowKit
namespace Eva
def al {α:Type}(r:Rc α) (h:AH) (D:Nat->Prop) (e:TypeId) (A:Option Addr) (n K:Nat) (xs:List α):Prop:=
 xs.length=n/\((A=ν/\n=0/\K=0)\/∃g cells,A=ω ⟨g,0,ν⟩/\D g/\g<h.next/\h.get g=ω (.cells cells e false)/\cells.length=n*r.size/\(K=cl n\/K=2*n)/\(∀u∈cells,flat u=true)/\
  ∀k x,xs[k]? = ω x->r.rel (λb=>D b/\b≠g) h ((cells.drop (k*r.size)).take r.size) x)
section
variable {α:Type}{r:Rc α}{h h':AH}{D:Nat->Prop}{e:TypeId}{A:Option Addr}{n K:Nat}{xs:List α}
theorem al.nil (r:Rc α) (h:AH) (D:Nat->Prop) (e:TypeId):al r h D e ν 0 0 []:=⟨rfl,.inl ⟨rfl,rfl,rfl⟩⟩
theorem al.len (o:al r h D e A n K xs):xs.length=n:=o.1
theorem al.lt (o:al r h D e A n K xs){b:Nat}(hb:ah A b):D b/\b<h.next:=by
 rcases o.2 with⟨rfl,_,_⟩ | ⟨g,cells,rfl,h1,h2,_⟩
 .exact hb.elim
 .have:b=g:=hb;subst this;exact⟨h1,h2⟩
theorem al.keep (o:al r h D e A n K xs) (hk:∀b,D b->b<h.next->h'.get b=h.get b) (hn:h.next<=h'.next):al r h' D e A n K xs:=by
 obtain⟨hl,o⟩:=o;refine⟨hl,?_⟩;rcases o with o | ⟨g,cells,rfl,h1,h2,h3,h4,h5,h6,h7⟩
 .exact .inl o
 .exact .inr ⟨g,cells,rfl,h1,Nat.lt_of_lt_of_le h2 hn,(hk g h1 h2).trans h3,h4,h5,h6,λk x hx=>r.keep (λb hb hlt=>hk b hb.1 hlt) hn (h7 k x hx)⟩
theorem al.nw (o:al r h D e A n K xs) (a:Nw h h'):al r h' D e A n K xs:=o.keep (λb _ hb=>a.get b hb) a.next
theorem al.off (o:al r h D e A n K xs){S:Nat->Prop}(a:Mt S h h') (hS:∀b,D b->b<h.next->¬S b):al r h' D e A n K xs:=o.keep (λb h1 hb=>a.get b hb (hS b h1 hb)) a.next
theorem al.sa (o:al r h D e A n K xs):Sa r D h A n K xs:=by
 obtain⟨hl,o⟩:=o;rcases o with⟨rfl,rfl,rfl⟩ | ⟨g,cells,rfl,h1,h2,h3,h4,h5,h6,h7⟩
 .exact⟨hl,.inl ⟨rfl,rfl,rfl⟩,λh=>absurd h U⟩
 .exact Sa.of_bk h3 hl h1 h2 λk x hx=>r.mono (λb hb _=>hb.1) (h7 k x hx)
theorem al.spot (o:al r h D e A n K xs):aS (ξ A n K):=by
 rcases o.2 with⟨rfl,_,_⟩ | ⟨g,cells,rfl,_⟩
 .trivial
 .rfl
theorem al.lit {g:Nat}{cells:List Value}(hg:h.get g=ω (.cells cells e false)) (h1:D g) (h2:g<h.next) (hl:xs.length=n) (h4:cells.length=n*r.size) (hf:∀u∈cells,flat u=true) (hx:∀k x,xs[k]? = ω x->r.rel (λb=>D b/\b≠g) h ((cells.drop (k*r.size)).take r.size) x):al r h D e (ω ⟨g,0,ν⟩) n (2*n) xs:=
 ⟨hl,.inr ⟨g,cells,rfl,h1,h2,hg,h4,.inr rfl,hf,hx⟩⟩
variable {P:Program}{bytes:Nat}
theorem wD (hT:uH P e r.size bytes=true) (o:al r h D e A n K xs){F:Nat->Prop}{B:Option Addr}{m L:Nat}{zs:List α}(hz:Sz r F h B m L zs) (hF:∀cs x,r.rel F h cs x->r.rel (λb=>D b/\¬ah A b) h cs x) (hb:(n+m)*bytes<70000000000000) (hn:n+m<70000000000000) (hbase:D h.next) :
  ∃A' K' h',ai P h (ω (.slice e)) (ω (.slice e)) (ξ A n K) (.slice B m L)=ω (ξ A' (n+m) K',h')/\al r h' D e A' (n+m) K' (xs ++ zs)/\Mt (ah A) h h'/\(∀b,ah A' b->ah A b\/h.next<=b):=by
 obtain⟨hl,ho⟩:=o;rcases Nat.eq_zero_or_pos m with h0 | h0
 .subst h0;have hzs:zs = []:=List.eq_nil_of_length_eq_zero hz.len;subst hzs;have hap:=kV (P:=P) (h:=h) (A:=A) (K:=K) (L:=L) (B:=B) (n:=n) (m:=0) (cells:=[]) hT (by simp) (by simp) (λh=>absurd h U) hb hn;rw[List.append_nil];have hle:n<=K / 2:=by
   rcases ho with⟨_,h1,h2⟩ | ⟨g,cells,_,_,_,_,_,hK,_⟩
   .omega
   .rcases hK with hK | hK
    .unfold cl at hK;omega
    .omega
  have hble:Nat.ble (n+0) (K / 2)=true:=Nat.ble_eq_true_of_le hle;refine⟨A,K,h,?_,⟨hl,ho⟩,Mt.refl _ _,λb hb=>.inl hb⟩;rw[hap,hble];simp only[cond_true];unfold nR;rcases ho with⟨rfl,rfl,rfl⟩ | ⟨g,cells,rfl,_⟩
  .rfl
  .rfl
 .obtain⟨b,ob,cells,rfl,hFb,hblt,hcl,hcc,hcf,hcr⟩:=hz.cells h0;have hap:=kV (P:=P) (h:=h) (A:=A) (K:=K) (L:=L) (B:=ω ⟨b,ob,ν⟩) (n:=n) (m:=m) (cells:=cells) hT hcl hcf (λ_=>⟨b,ob,rfl,hcc⟩) hb hn;have hnle:Nat.ble (n+m) (K / 2)=false:=by
   have:¬n+m<=K / 2:=by
    rcases ho with⟨_,h1,h2⟩ | ⟨g,cells,_,_,_,_,_,hK,_⟩
    .omega
    .rcases hK with hK | hK
     .unfold cl at hK;omega
     .omega
   cases hb:Nat.ble (n+m) (K / 2) with
   | false=>rfl
   | true=>exact absurd (Nat.le_of_ble_eq_true hb) this
  rw[hnle]at hap;simp only[cond_false]at hap;rcases ho with⟨rfl,rfl,rfl⟩ | ⟨g,old,rfl,g1,g2,g3,g4,gK,g5,g6⟩
  .have hout:fG h e r.size ν 0 0 m cells=ω (mH m (cl m) h.next,h.new (.cells cells e false)):=rfl;have hxs:xs = []:=List.eq_nil_of_length_eq_zero hl;subst hxs;rw[hout]at hap;obtain⟨k1,k2,k3⟩:=aj (h:=h) (ao:=.cells cells e false) rfl;refine⟨ω ⟨h.next,0,ν⟩,cl (0+m),h.new (.cells cells e false),by rw[hap,Nat.zero_add];rfl,⟨by rw[List.nil_append,hz.len,Nat.zero_add],.inr ⟨h.next,cells,rfl,hbase,by rw[k3];omega,k2,by rw[Nat.zero_add];exact hcl,.inl rfl,hcf,λk x hx=>?_⟩⟩,.of k1,λb hb=>.inr (by have:b=h.next:=hb;omega)⟩;have h9:=hF _ _ (hcr k x hx);have q1:r.rel (λc=>D c/\c<h.next) h ((cells.drop (k*r.size)).take r.size) x:=r.mono (λc hc hlt=>⟨hc.1,hlt⟩) h9;exact r.mono (λc hc _=>⟨hc.1,U⟩) (r.keep (λc hc hlt=>k1.get c hlt) k1.next q1)
  .have hcut:nF old 0 (n*r.size)=ω old:=by
    rw[sT U];simp[<-g4]
   have hcell:aY h g=ω (old,e,false):=by unfold aY;rw[g3]
   obtain⟨h2,hh2,hget⟩:∃h2,fG h e r.size (ω ⟨g,0,ν⟩) n K m cells=ω (mH (n+m) (cl (n+m)) h.next,h2.new (.cells (old ++ cells) e false))/\(h2=h\/h2=h.del g):=by
    unfold fG;simp only[hcell,hcut];cases hpar:Nat.beq (K % 2) 0 with
    | true=>exact⟨h,rfl,.inl rfl⟩
    | false=>
     refine⟨h.del g,?_,.inr rfl⟩;simp only[cond_false,Nat.beq_refl,Bool.not_false,Bool.and_self,cond_true]
   have hn2:h2.next=h.next:=by rcases hget with rfl | rfl <;>rfl
   have hg2:∀c,c≠g->h2.get c=h.get c:=λc hc=>by
    rcases hget with rfl | rfl
    .rfl
    .rw[get_del,if_neg hc]
   rw[hh2]at hap;have hgn:∀c,c≠g->c<h.next->(h2.new (.cells (old ++ cells) e false)).get c=h.get c:=λc hc hlt=>by
    rw[get_new,if_neg U];exact hg2 c hc
   refine⟨ω ⟨h.next,0,ν⟩,cl (n+m),_,hap,⟨by rw[List.length_append,hl,hz.len],.inr ⟨h.next,old ++ cells,rfl,hbase,by rw[go];omega,by rw[get_new,hn2,if_pos rfl],by rw[List.length_append,g4,hcl,Nat.add_mul],.inl rfl,λu hu=>?_,λk x hx=>?_⟩⟩,⟨by rw[go];omega,λc hc hs=>hgn c (λe=>hs e) hc⟩,λc hc=>.inr (by have:c=h.next:=hc;omega)⟩
   .rcases List.mem_append.1 hu with hu | hu
    .exact g5 u hu
    .exact hcf u hu
   .have turn:∀{G:Nat->Prop}{cs:List Value}{x:α},(∀c,G c->c<h.next->D c/\c≠g)->r.rel G h cs x->r.rel (λc=>D c/\c≠h.next) (h2.new (.cells (old ++ cells) e false)) cs x:=by
     intro G cs x hG hr;have q1:r.rel (λc=>(D c/\c≠g)/\c<h.next) h cs x:=r.mono (λc hc hlt=>⟨hG c hc hlt,hlt⟩) hr;have q2:=r.keep (h':=h2.new (.cells (old ++ cells) e false)) (λc hc hlt=>hgn c hc.1.2 hlt) (by rw[go];omega) q1;exact r.mono (λc hc _=>⟨hc.1.1,U⟩) q2
    have hsz:∀j,j<n->j*r.size+r.size<=old.length:=λj hj=>by
     rw[g4,<-Nat.succ_mul];exact Nat.mul_le_mul_right _ hj
    rw[List.getElem?_append]at hx
    split at hx
    .rename_i hlt;have h4:=hsz k U;rw[List.drop_append_of_le_length U,List.take_append_of_le_length (by simp;omega)];exact turn (λc hc _=>hc) (g6 k x hx)
    .rename_i hge;have h5:k*r.size=old.length+(k - n)*r.size:=by
      rw[g4,<-Nat.add_mul,Nat.add_sub_cancel' U]
     rw[h5,List.drop_append];have h6:List.drop (old.length+(k - n)*r.size) old = []:=List.drop_eq_nil_of_le U;rw[h6,List.nil_append,Nat.add_sub_cancel_left];exact turn (λc hc _=>⟨hc.1,λe=>hc.2 e⟩) (hF _ _ (hcr (k - n) x (by rw[<-hl];exact hx)))
end
section
variable {α:Type}{r:Rc α}{h h':AH}{D D':Nat->Prop}{e:TypeId}{A:Option Addr}{n K:Nat}{xs:List α}{P:Program}{bytes:Nat}
theorem al.mono (o:al r h D e A n K xs) (hD:∀b,D b->b<h.next->D' b):al r h D' e A n K xs:=by
 obtain⟨hl,o⟩:=o;refine⟨hl,?_⟩;rcases o with o | ⟨g,cells,rfl,h1,h2,h3,h4,h5,h6,h7⟩
 .exact .inl o
 .exact .inr ⟨g,cells,rfl,hD g h1 h2,h2,h3,h4,h5,h6,λk x hx=>r.mono (λb hb hlt=>⟨hD b hb.1 hlt,hb.2⟩) (h7 k x hx)⟩
def po (r:Rc α):Prop:=∀{F G:Nat->Prop}{h h':AH}{cs:List Value}{x:α},r.rel F h cs x->r.rel G h' cs x
theorem al.lone (hr:po r) (o:al r h D e A n K xs):al r h (ah A) e A n K xs:=by
 obtain⟨hl,o⟩:=o;refine⟨hl,?_⟩;rcases o with o | ⟨g,cells,rfl,h1,h2,h3,h4,h5,h6,h7⟩
 .exact .inl o
 .exact .inr ⟨g,cells,rfl,rfl,h2,h3,h4,h5,h6,λk x hx=>hr (h7 k x hx)⟩
theorem al.own (o:al r h D e A n K xs){b:Nat}(hb:ah A b):b<h.next:=(o.lt hb).2
theorem aV (hr:po r) (hT:uH P e r.size bytes=true) (o:al r h (ah A) e A n K xs){F:Nat->Prop}{B:Option Addr}{m L:Nat}{zs:List α}(hz:Sz r F h B m L zs) (hb:(n+m)*bytes<70000000000000) (hn:n+m<70000000000000) :
  ∃A' K' h',ai P h (ω (.slice e)) (ω (.slice e)) (ξ A n K) (.slice B m L)=ω (ξ A' (n+m) K',h')/\al r h' (ah A') e A' (n+m) K' (xs ++ zs)/\Mt (ah A) h h'/\(∀b,ah A' b->ah A b\/(h.next<=b/\b<h'.next)):=by
 obtain⟨A',K',h',x1,x2,x3,x4⟩:=wD (D:=λ_=>True) hT (o.mono λ_ _ _=>trivial) hz (λcs x hx=>hr hx) hb hn trivial;exact⟨A',K',h',x1,x2.lone hr,x3,λb hb=>(x4 b hb).imp id λh=>⟨h,x2.own hb⟩⟩
theorem gq (hT:uH P e r.size bytes=true) (o:al r h D e A n K xs){F:Nat->Prop}{B:Option Addr}{m L:Nat}{zs:List α}(hz:Sz r F h B m L zs) (hF:∀b,F b->¬ah A b) (hb:(n+m)*bytes<70000000000000) (hn:n+m<70000000000000) :
  ∃A' K' h',ai P h (ω (.slice e)) (ω (.slice e)) (ξ A n K) (.slice B m L)=ω (ξ A' (n+m) K',h')/\al r h' (λb=>D b\/F b\/b=h.next) e A' (n+m) K' (xs ++ zs)/\Mt (ah A) h h'/\(∀b,ah A' b->ah A b\/(h.next<=b/\b<h'.next)):=by
 obtain⟨A',K',h',x1,x2,x3,x4⟩:=wD (D:=λb=>D b\/F b\/b=h.next) hT (o.mono λ_ hb _=>.inl hb) hz (λcs x hx=>r.mono (λb hb _=>⟨.inr (.inl hb),hF b hb⟩) hx) hb hn (.inr (.inr rfl));exact⟨A',K',h',x1,x2,x3,λb hb=>(x4 b hb).imp id λh=>⟨h,x2.own hb⟩⟩
theorem Sz.one {F:Nat->Prop}{g L:Nat}{cells:List Value}{x:α}{t:TypeId}{f:Bool}(hg:h.get g=ω (.cells cells t f)) (hF:F g) (hlt:g<h.next) (hl:cells.length=r.size) (hx:r.rel F h cells x):Sz r F h (ω ⟨g,0,ν⟩) 1 L [x]:=
 (Sa.of_bk (r:=r) (xs:=[x]) (n:=1) (K:=L) hg rfl hF hlt λk y hy=>by
  match k,hy with
  | 0,hy=>
   injection hy with hy;subst hy;rw[Nat.zero_mul,List.drop_zero,List.take_of_length_le U];exact hx).z
theorem cE (k:IntKind):po (Rc.int k):=λh=>h
theorem zu (k k':IntKind):po (Rc.pair k k'):=λh=>h
theorem em (k k' k'':IntKind):po (Rc.tri k k' k''):=λh=>h
end
end Eva
end
section
open Go Go.RowKit
namespace Eva
section
variable {F:Nat->Prop}{h:AH}{A:Option Addr}{n K:Nat}
theorem Sz.int {xs:List Int}(hs:Sz cI F h A n K xs){k:Nat}(hk:k<n):∃b o x,A=ω ⟨b,o,ν⟩/\F b/\b<h.next/\xs[k]? = ω x/\ldC h b (o+k)=ω (ψ η x):=by
 obtain⟨b,o,x,cs,hA,hF,hb,hx,hc,hr⟩:=hs.get hk;refine⟨b,o,x,hA,hF,hb,hx,?_⟩;have hr':cs = [ψ η x]:=hr;have:=hc 0 (ψ η x) (by rw[hr'];rfl);simpa[Rc.int]using this
theorem Sz.rowZ {α:Type}{r:Rc α}{xs:List (List α)}(hs:Sz (Rc.sliceZ r) F h A n K xs){k:Nat}(hk:k<n):∃b o A' n' K' x,A=ω ⟨b,o,ν⟩/\F b/\b<h.next/\xs[k]? = ω x/\ldC h b (o+k)=ω (ξ A' n' K')/\Sz r F h A' n' K' x:=by
 obtain⟨b,o,x,cs,hA,hF,hb,hx,hc,A',n',K',hcs,hs'⟩:=hs.get hk;refine⟨b,o,A',n',K',x,hA,hF,hb,hx,?_,hs'⟩;have:=hc 0 (ξ A' n' K') (by rw[hcs];rfl);simpa[Rc.sliceZ]using this
theorem Sz.tri {xs:List (Int×Int×Int)}(hs:Sz (Rc.tri .i64 .i64 .i64) F h A n K xs){k:Nat}(hk:k<n):∃b o x y z,A=ω ⟨b,o,ν⟩/\F b/\b<h.next/\xs[k]? = ω (x,y,z)/\ldC h b (o+k*3)=ω (ψ η x)/\ldC h b (o+k*3+1)=ω (ψ η y)/\ldC h b (o+k*3+2)=ω (ψ η z):=by
 obtain⟨b,o,x,cs,hA,hF,hb,hx,hc,hr⟩:=hs.get hk;have hr':cs = [ψ η x.1,ψ η x.2.1,ψ η x.2.2]:=hr;have h0:=hc 0 (ψ η x.1) (by rw[hr'];rfl);have h1:=hc 1 (ψ η x.2.1) (by rw[hr'];rfl);have h2:=hc 2 (ψ η x.2.2) (by rw[hr'];rfl);exact⟨b,o,x.1,x.2.1,x.2.2,hA,hF,hb,hx,by simpa[Rc.tri]using h0,by simpa[Rc.tri,Nat.add_assoc]using h1,by simpa[Rc.tri,Nat.add_assoc]using h2⟩
theorem Sz.tableZ {xs:List (Int×Int×List Int)}(hs:Sz Rc.tableZ F h A n K xs){k:Nat}(hk:k<n):∃b o x y A' n' K' zs,A=ω ⟨b,o,ν⟩/\F b/\b<h.next/\xs[k]? = ω (x,y,zs)/\ldC h b (o+k*3)=ω (ψ η x)/\ldC h b (o+k*3+1)=ω (ψ η y)/\ldC h b (o+k*3+2)=ω (ξ A' n' K')/\Sz cI F h A' n' K' zs:=by
 obtain⟨b,o,x,cs,hA,hF,hb,hx,hc,A',n',K',hr',hs'⟩:=hs.get hk;have h0:=hc 0 (ψ η x.1) (by rw[hr'];rfl);have h1:=hc 1 (ψ η x.2.1) (by rw[hr'];rfl);have h2:=hc 2 (ξ A' n' K') (by rw[hr'];rfl);exact⟨b,o,x.1,x.2.1,A',n',K',x.2.2,hA,hF,hb,hx,by simpa[Rc.tableZ]using h0,by simpa[Rc.tableZ,Nat.add_assoc]using h1,by simpa[Rc.tableZ,Nat.add_assoc]using h2,hs'⟩
end
end Eva
end
section
open Go Go.RowKit
namespace Eva
abbrev aN:Rc (Int×Int×Int):=Rc.tri .i64 .i64 .i64
abbrev Dz:Rc (Int×Int):=Rc.pair .i64 .i64
theorem af {x:Int}(h1:-9223372036854775808<=x) (h2:x<=9223372036854775807):IntKind.i64.wrap x=x:=IntWalk.i64_in _ ⟨h1,h2⟩
structure eA (h:AH) (Fa F:Nat->Prop) (g:Nat) (N:ab):Prop where
 own:F g/\g<h.next
 verts:∃A n K,ldC h g 0=ω (ξ A n K)/\Sa aN F h A n K N.vs
 arcs:∃A n K,ldC h g 1=ω (ξ A n K)/\Sa aN Fa h A n K N.xa
 types:∃A n K,ldC h g 2=ω (ξ A n K)/\Sa Rc.table F h A n K N.ts
 ins:∃A n K,ldC h g 3=ω (ξ A n K)/\Sa bh F h A n K (N.endsL false)
 outs:∃A n K,ldC h g 4=ω (ξ A n K)/\Sa bh F h A n K (N.endsL true)
 pls:∃A n K,ldC h g 5=ω (ξ A n K)/\Sa Dz F h A n K N.plL
 ok:N.Ok
 few:N.nv<=1000/\N.na<=1000
section
variable {h h':AH}{Fa F:Nat->Prop}{g:Nat}{N:ab}{Q:Value->AH->Prop}
theorem eA.keep (G:eA h Fa F g N) (hk:∀b,F b\/Fa b->b<h.next->h'.get b=h.get b) (hn:h.next<=h'.next):eA h' Fa F g N:=by
 have hc:∀o,ldC h' g o=ldC h g o:=λo=>be (hk g (.inl G.own.1) G.own.2) o;have hF:∀b,F b->b<h.next->h'.get b=h.get b:=λb h=>hk b (.inl h);have hA:∀b,Fa b->b<h.next->h'.get b=h.get b:=λb h=>hk b (.inr h);refine⟨⟨G.own.1,Nat.lt_of_lt_of_le G.own.2 hn⟩,?_,?_,?_,?_,?_,?_,G.ok,G.few⟩
 .obtain⟨A,n,c,h1,h2⟩:=G.verts;exact⟨A,n,c,(hc 0).trans h1,h2.keep hF hn⟩
 .obtain⟨A,n,c,h1,h2⟩:=G.arcs;exact⟨A,n,c,(hc 1).trans h1,h2.keep hA hn⟩
 .obtain⟨A,n,c,h1,h2⟩:=G.types;exact⟨A,n,c,(hc 2).trans h1,h2.keep hF hn⟩
 .obtain⟨A,n,c,h1,h2⟩:=G.ins;exact⟨A,n,c,(hc 3).trans h1,h2.keep hF hn⟩
 .obtain⟨A,n,c,h1,h2⟩:=G.outs;exact⟨A,n,c,(hc 4).trans h1,h2.keep hF hn⟩
 .obtain⟨A,n,c,h1,h2⟩:=G.pls;exact⟨A,n,c,(hc 5).trans h1,h2.keep hF hn⟩
theorem eA.nw (G:eA h Fa F g N) (a:Nw h h'):eA h' Fa F g N:=G.keep (λb _ hb=>a.get b hb) a.next
theorem eA.off (G:eA h Fa F g N){S:Nat->Prop}(a:Mt S h h') (hS:∀b,F b\/Fa b->¬S b):eA h' Fa F g N:=G.keep (λb hb hlt=>a.get b hlt (hS b hb)) a.next
theorem HD (G:eA h Fa F g N) (a:Int) (K:Q (.bool (decide (0<=a/\a<N.na))) h):WC Tryz.prog 155 [μ (ω ⟨g,0,ν⟩),ψ η a] h Q:=by
 obtain⟨A,n,c,c1,s1⟩:=G.arcs;have hn:N.na=n:=s1.len;refine kA ⟨λh1=>?_,λh1=>?_⟩
 .repeat (first | refine⟨_,_,rfl,?_⟩ | refine⟨_,_,_,(by assumption),?_⟩ | refine⟨_,(by assumption),?_⟩ | refine⟨_,rfl,?_⟩ | refine⟨(by first | assumption | omega),?_⟩ | refine⟨λhb=>?_,λhb=>absurd hb U⟩ | refine⟨λhb=>absurd hb U,λhb=>?_⟩ | refine⟨λ_=>?_,λhb=>Bool.noConfusion hb⟩ | refine⟨λhb=>Bool.noConfusion hb,λ_=>?_⟩)
  refine⟨λh2=>?_,λh2=>?_⟩
  .rwa [show decide (0<=a/\a<(N.na:Int))=true by simp;omega]at K
  .rwa [show decide (0<=a/\a<(N.na:Int))=false by simp;omega]at K
 .rwa [show decide (0<=a/\a<(N.na:Int))=false by simp;omega]at K
theorem rg (G:eA h Fa F g N){a:Nat}(ha:a<N.na) (K:Q (.bool true) h):WC Tryz.prog 155 [μ (ω ⟨g,0,ν⟩),ψ η a] h Q:=
 HD G a (by rwa [show decide (0<=(a:Int)/\(a:Int)<(N.na:Int))=true by simp;omega])
theorem eA.arc_ (G:eA h Fa F g N){a:Nat}(ha:a<N.na):∃b o n K,ldC h g 1=ω (ξ (ω ⟨b,o,ν⟩) n K)/\a<n/\b<h.next/\Fa b/\ldC h b (o+a*3)=ω (ψ η (N.fr a:Int))/\ldC h b (o+a*3+1)=ω (ψ η (N.to a:Int))/\ldC h b (o+a*3+2)=ω (ψ η (N.w a)):=by
 obtain⟨A,n,K,c1,s1⟩:=G.arcs;have hn:N.na=n:=s1.len;obtain⟨b,o,x,y,z,rfl,hF,hb,hx,e0,e1,e2⟩:=s1.tri (k:=a) U;rw[N.arc_get ha]at hx;injection hx with hx;have h1:x=(N.fr a:Int):=by rw[<-(ab.fr_lt G.ok ha).2,hx]
 have h2:y=(N.to a:Int):=by rw[<-(ab.to_lt G.ok ha).2,hx]
 have h3:z=N.w a:=by simp[ab.w,ha,hx]
 subst h1 h2 h3;exact⟨b,o,n,K,c1,U,hb,hF,e0,e1,e2⟩
theorem pp (G:eA h Fa F g N){a:Nat}(ha:a<N.na) (K:Q (ψ η (N.fr a:Int)) h):WC Tryz.prog 147 [μ (ω ⟨g,0,ν⟩),ψ η a] h Q:=by
 obtain⟨b,o,n,c,c1,hn,-,-,e0,e1,e2⟩:=G.arc_ ha;refine jK (rg G ha ?_)
 repeat (first | refine⟨_,_,rfl,?_⟩ | refine⟨_,_,_,(by assumption),?_⟩ | refine⟨_,(by assumption),?_⟩ | refine⟨_,rfl,?_⟩ | refine⟨(by first | assumption | omega),?_⟩ | refine⟨λhb=>?_,λhb=>absurd hb U⟩ | refine⟨λhb=>absurd hb U,λhb=>?_⟩ | refine⟨λ_=>?_,λhb=>Bool.noConfusion hb⟩ | refine⟨λhb=>Bool.noConfusion hb,λ_=>?_⟩)
 exact K
theorem zU (G:eA h Fa F g N){a:Nat}(ha:a<N.na) (K:Q (ψ η (N.to a:Int)) h):WC Tryz.prog 148 [μ (ω ⟨g,0,ν⟩),ψ η a] h Q:=by
 obtain⟨b,o,n,c,c1,hn,-,-,e0,e1,e2⟩:=G.arc_ ha;refine lR (rg G ha ?_)
 repeat (first | refine⟨_,_,rfl,?_⟩ | refine⟨_,_,_,(by assumption),?_⟩ | refine⟨_,(by assumption),?_⟩ | refine⟨_,rfl,?_⟩ | refine⟨(by first | assumption | omega),?_⟩ | refine⟨λhb=>?_,λhb=>absurd hb U⟩ | refine⟨λhb=>absurd hb U,λhb=>?_⟩ | refine⟨λ_=>?_,λhb=>Bool.noConfusion hb⟩ | refine⟨λhb=>Bool.noConfusion hb,λ_=>?_⟩)
 exact K
theorem jf (G:eA h Fa F g N){a:Nat}(ha:a<N.na) (K:Q (ψ η (N.w a)) h):WC Tryz.prog 77 [μ (ω ⟨g,0,ν⟩),ψ η a] h Q:=by
 obtain⟨b,o,n,c,c1,hn,-,-,e0,e1,e2⟩:=G.arc_ ha;refine iF (rg G ha ?_)
 repeat (first | refine⟨_,_,rfl,?_⟩ | refine⟨_,_,_,(by assumption),?_⟩ | refine⟨_,(by assumption),?_⟩ | refine⟨_,rfl,?_⟩ | refine⟨(by first | assumption | omega),?_⟩ | refine⟨λhb=>?_,λhb=>absurd hb U⟩ | refine⟨λhb=>absurd hb U,λhb=>?_⟩ | refine⟨λ_=>?_,λhb=>Bool.noConfusion hb⟩ | refine⟨λhb=>Bool.noConfusion hb,λ_=>?_⟩)
 exact K
theorem mB (G:eA h Fa F g N) (K:Q (ψ η (N.na:Int)) h):WC Tryz.prog 51 [μ (ω ⟨g,0,ν⟩)] h Q:=by
 obtain⟨A,n,c,c1,s1⟩:=G.arcs;have hn:N.na=n:=s1.len;refine jJ ?_
 repeat (first | refine⟨_,_,rfl,?_⟩ | refine⟨_,_,_,(by assumption),?_⟩ | refine⟨_,(by assumption),?_⟩ | refine⟨_,rfl,?_⟩ | refine⟨(by first | assumption | omega),?_⟩ | refine⟨λhb=>?_,λhb=>absurd hb U⟩ | refine⟨λhb=>absurd hb U,λhb=>?_⟩ | refine⟨λ_=>?_,λhb=>Bool.noConfusion hb⟩ | refine⟨λhb=>Bool.noConfusion hb,λ_=>?_⟩)
 rw[hn]at K;exact K
theorem BL (G:eA h Fa F g N) (K:Q (ψ η (N.nv:Int)) h):WC Tryz.prog 200 [μ (ω ⟨g,0,ν⟩)] h Q:=by
 obtain⟨A,n,c,c1,s1⟩:=G.verts;have hn:N.nv=n:=s1.len;refine jj ?_
 repeat (first | refine⟨_,_,rfl,?_⟩ | refine⟨_,_,_,(by assumption),?_⟩ | refine⟨_,(by assumption),?_⟩ | refine⟨_,rfl,?_⟩ | refine⟨(by first | assumption | omega),?_⟩ | refine⟨λhb=>?_,λhb=>absurd hb U⟩ | refine⟨λhb=>absurd hb U,λhb=>?_⟩ | refine⟨λ_=>?_,λhb=>Bool.noConfusion hb⟩ | refine⟨λhb=>Bool.noConfusion hb,λ_=>?_⟩)
 rw[hn]at K;exact K
end
end Eva
end
section
open Go Go.RowKit
namespace Eva
theorem dC:uH Tryz.prog 3 1 8=true:=by kernel_rfl
section
variable {h h':AH}{Fa F:Nat->Prop}{g:Nat}{N:ab}{Q:Value->AH->Prop}{A:Option Addr}{n K:Nat}{xs:List Int}
theorem Et (hs:Sa cI F h A n K xs) (hn:n<=100000){B:Option Addr}{L:Nat}{h1:AH}(k1:Nw h h1) (hB:al cI h1 (λb=>h.next<=b) 3 B 0 L []) :
  ∃A' K' h',ai Tryz.prog h1 (ω (.slice 3)) (ω (.slice 3)) (.slice B 0 L) (ξ A n K)=ω (ξ A' n K',h')/\Sa cI (λb=>h.next<=b) h' A' n K' xs/\Nw h h':=by
 obtain⟨A',K',h',x1,x2,x3,x4⟩:=wD (r:=cI) dC hB (hs.nw k1).z (λ_ _ h=>h) U U k1.next;refine⟨A',K',h',by rw[Nat.zero_add]at x1;exact x1,?_,x3.is_nw k1 λb hb=>(hB.lt hb).1⟩;have:=x2.sa
 rwa [Nat.zero_add,List.nil_append]at this
theorem Fd (hs:Sa cI F h A n K xs) (hn:n<=100000) (hK:∀A' K' h',Sa cI (λb=>h.next<=b) h' A' n K' xs->Nw h h'->Q (ξ A' n K') h'):WC Tryz.prog 49 [ξ A n K] h Q:=by
 refine dy ⟨λhA=>?_,λhA=>?_⟩
 .obtain⟨h0,h1⟩:=hs.nil0 hA;refine⟨h0,h1,?_⟩;subst hA h0 h1;exact hK ν 0 h ⟨hs.len,.inl ⟨rfl,rfl,rfl⟩,λh=>absurd h U⟩ (Nw.refl _)
 .obtain⟨b,o,rfl⟩:=hs.some_ hA;refine⟨b,o,rfl,λh1 e1=>?_⟩;obtain⟨k1,g1,z1⟩:=aj e1;obtain⟨A',K',h',x1,x2,x3⟩:=Et hs hn k1 (al.lit (r:=cI) (xs:=[]) (n:=0) g1 (Nat.le_refl _) U rfl rfl (by simp) (by simp));exact⟨A',n,K',h',x1,hK _ _ _ x2 x3⟩
theorem Fe (G:eA h Fa F g N){v:Nat}(hv:v<N.nv) (K:Q (.bool true) h):WC Tryz.prog 229 [μ (ω ⟨g,0,ν⟩),ψ η v] h Q:=by
 obtain⟨A,n,c,c1,s1⟩:=G.verts;have hn:N.nv=n:=s1.len;refine jN ⟨λh1=>?_,λh1=>absurd h1 U⟩
 repeat (first | refine⟨_,_,rfl,?_⟩ | refine⟨_,_,_,(by assumption),?_⟩ | refine⟨_,(by assumption),?_⟩ | refine⟨_,rfl,?_⟩ | refine⟨(by first | assumption | omega),?_⟩ | refine⟨λhb=>?_,λhb=>absurd hb U⟩ | refine⟨λhb=>absurd hb U,λhb=>?_⟩ | refine⟨λ_=>?_,λhb=>Bool.noConfusion hb⟩ | refine⟨λhb=>Bool.noConfusion hb,λ_=>?_⟩)
 exact K
theorem BM (G:eA h Fa F g N){v:Nat}(hv:v<N.nv) (hK:∀A' K' h',Sa cI (λb=>h.next<=b) h' A' (N.from_ v).length K' (ints (N.from_ v))->Nw h h'->Q (ξ A' (N.from_ v).length K') h'):WC Tryz.prog 162 [μ (ω ⟨g,0,ν⟩),ψ η v] h Q:=by
 obtain⟨A,n,K,c4,s4⟩:=G.outs;have hn:v<n:=by rw[<-s4.len];simpa[ab.endsL]using hv
 obtain⟨b,o,A1,n1,K1,x,rfl,hF,hb,hx,e1,hr⟩:=s4.row hn;have hxe:x=ints (N.from_ v):=by
  simp[ab.endsL,hv]at hx;rw[<-hx,ab.from_ints];rfl
 subst hxe;have hl:(N.from_ v).length=n1:=by simpa[ints]using hr.len
 have hl2:n1<=1000:=by
  rw[<-hl];exact Nat.le_trans (aE _ _) G.few.2
 refine jL (Fe G hv ?_);refine⟨_,rfl,λ_=>?_,λh=>Bool.noConfusion h⟩;refine⟨_,_,rfl,_,_,_,c4,_,rfl,_,_,rfl,hn,_,_,_,e1,?_⟩;refine Fd hr U λA' K' h' k1 k2=>?_;rw[<-hl]at k1⊢;exact⟨_,_,_,rfl,hK _ _ _ k1 k2⟩
theorem Ff {ins outs:Int}(hi:0<=ins/\ins<=16) (ho:0<=outs/\outs<=16) (K:Q .nilIface h):WC Tryz.prog 220 [ψ η ins,ψ η outs] h Q:=by
 refine kB ⟨λh=>absurd h U,λ_=>?_⟩;refine⟨λh=>absurd h U,λ_=>?_⟩;refine⟨λh=>absurd h U,λ_=>?_⟩;exact⟨λh=>absurd h U,λ_=>K⟩
theorem xV {ins outs:Int}{costs:List Int}(hs:Sa cI F h A n K costs) (hok:cM ins outs costs) (i o:Nat) (hi16:i<=1000) (ho16:o<=1000) (hK:∀h',Nw h h'->Q (ψ η (dE (ins,outs,costs) i o)) h') :
  WC Tryz.prog 149 [.agg #[ψ η ins,ψ η outs,ξ A n K],ψ η i,ψ η o] h Q:=by
 have hI:=hok.ins_;have hO:=hok.outs_;have hlen:=hok.len;refine yX λh1 e1=>?_;obtain⟨k1,g1,z1⟩:=aj e1;have c0:ldC h1 h.next 0=ω (ψ η ins):=aa g1 rfl;have c1:ldC h1 h.next 1=ω (ψ η outs):=aa g1 rfl;have c2:ldC h1 h.next 2=ω (ξ A n K):=aa g1 rfl;have inf:¬((i:Int)<ins/\(o:Int)<outs)->Q (ψ η 1152921504606846976) h1:=λhno=>by
  have:=hK h1 k1
  rwa [dE,if_neg hno]at this
 refine⟨λh=>absurd h U,λ_=>⟨_,c0,λhb=>inf U,λhb1=>⟨λh=>absurd h U,λ_=>⟨_,c1,λhb=>inf U,λhb2=>⟨_,c0,_,c1,?_⟩⟩⟩⟩⟩;refine Ff hI hO ⟨ν,rfl,λ_=>?_,λt u h=>by cases h⟩;obtain⟨ins,rfl⟩:=Int.eq_ofNat_of_zero_le hI.1;obtain⟨outs,rfl⟩:=Int.eq_ofNat_of_zero_le hO.1;have h1':i<ins:=U;have h2':o<outs:=U;have hn:n=ins*outs:=by
  have:=hs.len;have h3:((costs.length:Nat):Int)=((ins*outs:Nat):Int):=by rw[hlen];simp
  omega
 have hlt:i*outs+o<n:=by rw[hn];exact mA h1' h2'
 have hmul:i*outs<=1000*16:=Nat.mul_le_mul U U;obtain⟨b,of,x,rfl,hF,hb,hx,e0⟩:=hs.int hlt;have e0':=(k1.ldC hb (of+(i*outs+o))).trans e0;obtain⟨t,ht⟩:∃t,i*outs=t:=⟨_,rfl⟩;rw[ht]at hlt hmul e0' hx;have w1:IntKind.i64.wrap ((i:Int)*(outs:Int))=(t:Int):=by
  rw[<-Int.natCast_mul,ht];exact af U U
 have w2:IntKind.i64.wrap ((t:Int)+(o:Int))=((t+o:Nat):Int):=by rw[Int.natCast_add];exact af U U
 refine⟨_,c1,_,w1,_,w2,_,_,_,c2,λ_=>⟨_,_,_,c2,_,rfl,_,_,rfl,hlt,_,e0',?_⟩,λh=>absurd h U⟩;have:=hK h1 k1
 rwa [dE,if_pos (show(i:Int)<(ins:Int)/\(o:Int)<(outs:Int) from ⟨U,U⟩),show(costs[i*(outs:Int).toNat+o]?)=ω x by rw[Int.toNat_natCast,ht];exact hx]at this
end
end Eva
end
section
open Go Go.RowKit
namespace Eva
theorem aC {h h1:AH}{z vs:List Value}{t:TypeId}(e1:h1=AH.new h (.cells z t false)) (hl:z.length=vs.length) (hf:∀v∈vs,flat v=true) :
  ∃h2,iE h1 h.next 0 vs=ω h2/\Nw h h2/\Bk h2 h.next vs t/\h2.next=h.next+1:=by
 obtain⟨k1,g1,z1⟩:=aj e1;refine⟨_,Fc (e:=t) g1 U hf,k1.put (Nat.le_refl _) _,?_,z1⟩;rw[Bk,get_put,if_pos rfl];simp[hl]
theorem bL {h:AH}{b:Nat}{c vs:List Value}{t:TypeId}(hb:Bk h b c t) (hl:c.length=vs.length) (hf:∀v∈vs,flat v=true) :
  ∃h2,iE h b 0 vs=ω h2/\Bk h2 b vs t/\h2.next=h.next/\∀b',b'≠b->h2.get b' = h.get b':=by
 refine⟨_,Fc hb U hf,?_,rfl,λb' hb'=>by rw[get_put,if_neg hb']⟩;rw[Bk,get_put,if_pos rfl];simp[hl]
theorem aD {h:AH}{b o:Nat}{c:List Value}{t:TypeId}{v:Value}(hb:Bk h b c t) (ho:o<c.length) (hf:flat v=true) :
  ∃h2,iE h b o [v]=ω h2/\Bk h2 b (c.set o v) t/\h2.next=h.next/\∀b',b'≠b->h2.get b' = h.get b':=
 ⟨_,st1 hb ho hf,by rw[Bk,get_put,if_pos rfl],rfl,λb' hb'=>by rw[get_put,if_neg hb']⟩
theorem dH {a b:Value}(ha:flat a=true) (hb:flat b=true):∀v∈[a,b],flat v=true:=by simp[ha,hb]
theorem eC {a b c:Value}(ha:flat a=true) (hb:flat b=true) (hc:flat c=true):∀v∈[a,b,c],flat v=true:=by simp[ha,hb,hc]
theorem qp {h:AH}{b o:Nat}{u v:Value}(h0:ldC h b o=ω u) (h1:ldC h b (o+1)=ω v):au h b o 2=ω [u,v]:=
 jY rfl U λj x hj=>by
  match j,hj with
  | 0,hj=>injection hj with hj;subst hj;exact h0
  | 1,hj=>injection hj with hj;subst hj;exact h1
theorem wE {h:AH}{b o:Nat}{u v x:Value}(h0:ldC h b o=ω u) (h1:ldC h b (o+1)=ω v) (h2:ldC h b (o+2)=ω x):au h b o 3=ω [u,v,x]:=
 jY rfl U λj y hj=>by
  match j,hj with
  | 0,hj=>injection hj with hj;subst hj;exact h0
  | 1,hj=>injection hj with hj;subst hj;exact h1
  | 2,hj=>injection hj with hj;subst hj;exact h2
section
variable {h h':AH}{Fa F:Nat->Prop}{g:Nat}{N:ab}{Q:Value->AH->Prop}{A:Option Addr}{n K:Nat}
theorem BN (G:eA h Fa F g N){a b:Nat}(ha:a<N.na) (hb:b<N.na) (hK:∀h',Nw h h'->Q (ψ η (N.turn a b)) h'):WC Tryz.prog 163 [μ (ω ⟨g,0,ν⟩),ψ η a,ψ η b] h Q:=by
 obtain⟨b1,o1,n1,K1,c1,hn1,l1,-,e0,e1,e2⟩:=G.arc_ ha;obtain⟨b1',o1',n1',K1',c1',hn1',l1',-,f0,f1,f2⟩:=G.arc_ hb;refine jM (rg G ha ⟨_,rfl,λ_=>?_,λh=>Bool.noConfusion h⟩);refine rg G hb ⟨_,rfl,λ_=>?_,λh=>Bool.noConfusion h⟩;refine⟨_,_,rfl,_,_,_,c1,_,rfl,_,_,rfl,hn1,_,e1,_,_,_,c1',_,rfl,_,_,rfl,hn1',_,f0,λhab=>?_,λhab=>?_⟩
 .have hab':N.to a=N.fr b:=U;have hvt:=(ab.to_lt G.ok ha).1;obtain⟨tok,t,vx,t1,t2,t3,t4,t5⟩:=ab.tab_ok G.ok hvt;obtain⟨A0,n0,K0,g0,s0⟩:=G.verts;obtain⟨A2,n2,K2,g2,s2⟩:=G.types;obtain⟨A5,n5,K5,g5,s5⟩:=G.pls;have hn0:N.to a<n0:=by rw[<-s0.len];exact hvt
  have hn2:vx.2.2.toNat<n2:=by rw[<-s2.len];omega
  have hn5:n5=N.na:=by rw[<-s5.len];simp[ab.plL]
  obtain⟨b0,o0,u1,u2,u3,rfl,-,q0,r2,r3,r4,r5⟩:=s0.tri hn0;obtain⟨b2,o2,v1,v2,A',n',K',zs,rfl,-,q2,k2,k3,k4,k5,k6⟩:=s2.table hn2;obtain⟨b5,o5,pa,pb,rfl,-,q5,j2,j3,j4⟩:=s5.pair (k:=a) U;obtain⟨b5',o5',pa',pb',hA5,-,q5',i2,i3,i4⟩:=s5.pair (k:=b) U;injection hA5 with hA5;injection hA5 with hA51 hA52;subst hA51 hA52;rw[t1]at r2;injection r2 with r2;subst r2;have hu3:(u3.toNat:Int)=u3:=Int.toNat_of_nonneg t4;simp only at hn2 k2 k3 k4 k5;have hpa:pa=(N.inPl a:Int):=by simp[ab.plL,ha]at j2;exact j2.1.symm
  have hpb:pb' = (N.outPl b:Int):=by simp[ab.plL,hb]at i2;exact i2.2.symm
  have htab:(v1,v2,zs)=N.tab (N.to a):=by
   simp only at t2;rw[t2]at k2;injection k2 with k2;rw[<-k2,t3]
  have hi1:N.inPl a<=1000:=Nat.le_trans (gf _ _ _) (by have:=G.few.2;omega);have ho1:N.outPl b<=1000:=Nat.le_trans (gf _ _ _) (by have:=G.few.2;omega);subst hpa hpb;refine⟨_,_,_,g0,_,_,_,c1,_,_,rfl,hn1,_,e1,_,rfl,_,_,rfl,hn0,_,_,_,wE r3 r4 r5,λh3 e3=>?_⟩;obtain⟨h4,hs4,k4',g4,z4⟩:=aC (vs:=[ψ η u1,ψ η u2,ψ η u3]) e3 rfl (eC rfl rfl rfl);have x9:ldC h4 h.next 2=ω (ψ η u3):=aa g4 rfl;refine⟨h4,hs4,_,_,_,(k4'.ldC G.own.2 _).trans g2,_,x9,u3.toNat,hu3.symm,_,_,rfl,hn2,_,_,_,_,_,wE ((k4'.ldC q2 _).trans k3) ((k4'.ldC q2 _).trans k4) ((k4'.ldC q2 _).trans k5),_,_,_,(k4'.ldC G.own.2 _).trans g5,_,_,rfl,U,_,(k4'.ldC q5 _).trans j3,_,_,_,(k4'.ldC G.own.2 _).trans g5,_,_,rfl,U,_,(k4'.ldC q5 _).trans i4,?_⟩;refine xV (k6.nw k4') (by rw[<-htab]at tok;exact tok) (N.inPl a) (N.outPl b) hi1 ho1 λh5 k5'=>⟨_,rfl,?_⟩;have:=hK h5 (k4'.trans k5')
  rwa [ab.turn,if_pos ⟨ha,hb,hab'⟩,<-htab]at this
 .have:=hK h (Nw.refl _)
  rwa [ab.turn,if_neg (λh=>hab (by rw[h.2.2]))]at this
theorem xW (a:Int) (hK:Q (ψ η (dF a)) h):WC Tryz.prog 157 [ψ η a] h Q:=by
 refine uc ⟨λh1=>?_,λh1=>⟨λh2=>?_,λh2=>?_⟩⟩
 .rwa [dF,if_pos h1]at hK
 .rwa [dF,if_neg h1,if_pos h2]at hK
 .rwa [dF,if_neg h1,if_neg h2]at hK
theorem Fg (a b:Int) (hK:Q (ψ η (ck a b)) h):WC Tryz.prog 103 [ψ η a,ψ η b] h Q:=by
 have h1:=gj a;have h2:=gj b;exact wd (xW _ ⟨_,rfl,xW _ ⟨_,rfl,_,af U U,xW _ ⟨_,rfl,hK⟩⟩⟩)
theorem HE {F:Nat->Prop}{l:List Int}(hs:Sa cI F h A n K l) (hn:n<=1000000) (hK:Q (ψ η (jl l)) h):WC Tryz.prog 84 [ξ A n K] h Q:=by
 refine vZ ⟨λm acc i h1=>∃k:Nat,i=k/\k<=n/\m=n - k/\acc=jl (l.take k)/\h1=h,n,⟨0,rfl,Nat.zero_le _,rfl,by simp[jl],rfl⟩,?_⟩;rintro m acc i h1 ⟨k,rfl,hk,rfl,rfl,rfl⟩;refine⟨λhlt=>?_,λhge=>?_⟩
 .obtain⟨b,o,x,rfl,hF,hb,hx,e0⟩:=hs.int (k:=k) U;exact⟨_,rfl,_,_,rfl,U,_,e0,Fg _ _ ⟨_,rfl,_,af U U,n - (k+1),U,k+1,U,U,rfl,(zk hx).symm,rfl⟩⟩
 .have:l.take k=l:=List.take_of_length_le (by rw[hs.len];omega)
  rwa [this]
theorem Fh (x:Int) (hK:Q (.bool false) h):WC Tryz.prog 166 [ψ η x] h Q:=jI ⟨λ_=>hK,λh=>absurd rfl h⟩
theorem DA (x:Int) (hK:Q (.bool false) h):WC Tryz.prog 183 [ψ η x] h Q:=mO ⟨λ_=>hK,λh=>absurd rfl h⟩
theorem Eu (a b:Int) (hK:Q (.bool (decide (a<b))) h):WC Tryz.prog 165 [ψ η a,ψ η b] h Q:=by
 refine oU (DA _ ⟨_,rfl,λh=>Bool.noConfusion h,λ_=>⟨λh1=>?_,λh1=>?_⟩⟩)
 .rwa [decide_eq_true h1]at hK
 .rwa [decide_eq_false h1]at hK
theorem Fi {i j:Nat}(hi:i<=100000) (hj:j<=100000):IntKind.i64.wrap ((i:Int)+(j:Int))=((i+j:Nat):Int)/\IntKind.u64.wrap ((i+j:Nat):Int)=((i+j:Nat):Int)/\Int.fdiv ((i+j:Nat):Int) (2 ^ 1)=(((i+j) / 2:Nat):Int)/\IntKind.i64.wrap (((i+j) / 2:Nat):Int)=(((i+j) / 2:Nat):Int):=by
 refine⟨by rw[Int.natCast_add];exact af U U,?_,?_,af U U⟩
 .simp[IntKind.wrap,IntKind.bits,IntKind.signed];omega
 .rw[Int.fdiv_eq_ediv_of_nonneg _ (by decide)];omega
theorem DB {F:Nat->Prop}{l:List Nat}(a:Nat) (hs:Sa cI F h A n K (ints l)) (hasc:l.Pairwise (· < ·)) (hn:n<=100000) (hK:∀(i:Nat) (b:Bool),(b=true->l[i]? = ω a)->(b=false->a ∉ l)->Q (.tuple #[ψ η i,.bool b]) h) :
  WC Tryz.prog 89 [ξ A n K,ψ η a] h Q:=by
 have hl:l.length=n:=by simpa[ints]using hs.len
 have hget:∀(k y:Nat),l[k]? = ω y->(ints l)[k]? = ω (y:Int):=λk y hy=>by simp[ints,hy]
 refine d9 ⟨λm x y h1=>∃i j:Nat,x=i/\y=j/\m=j - i/\i<=j/\j<=n/\(∀(k y:Nat),k<i->l[k]? = ω y->y<a)/\(∀(k y:Nat),j<=k->l[k]? = ω y->a<=y)/\h1=h,n,⟨0,n,rfl,rfl,rfl,Nat.zero_le _,Nat.le_refl _,λk y h=>U,λk y hk hy=>by have:=(List.getElem?_eq_some_iff.1 hy).1;omega,rfl⟩,?_⟩;rintro m x y h1 ⟨i,j,rfl,rfl,rfl,hij,hjn,ha,hb,rfl⟩;refine⟨λhlt=>?_,λhge=>?_⟩
 .obtain⟨w1,w2,w3,w4⟩:=Fi (i:=i) (j:=j) U U;obtain⟨q,hq⟩:∃q,(i+j) / 2=q:=⟨_,rfl⟩;rw[hq]at w3 w4;have q1:i<=q:=U;have q2:q<j:=U;obtain⟨b,o,x,rfl,hF,hbl,hx,e0⟩:=hs.int (k:=q) U;obtain⟨y,hy⟩:∃y,l[q]? = ω y:=⟨_,List.getElem?_eq_getElem U⟩;rw[hget q y hy]at hx;injection hx with hx;subst hx;refine⟨_,w1,_,w2,_,w3,_,w4,_,rfl,_,_,rfl,U,_,e0,Eu _ _ ⟨_,rfl,λht=>?_,λht=>?_⟩⟩
  .have hya:y<a:=by have:=of_decide_eq_true ht;omega
   refine⟨_,af U U,j - (q+1),U,q+1,j,U,rfl,rfl,U,hjn,λk z hk hz=>?_,hb,rfl⟩;by_cases e:k=q
   .subst e;rw[hy]at hz;injection hz with hz;omega
   .have:=i9 hasc hz hy U;omega
  .have hya:a<=y:=by have:=of_decide_eq_false ht;omega
   refine⟨q - i,U,i,q,rfl,rfl,rfl,q1,U,ha,λk z hk hz=>?_,rfl⟩;by_cases e:k=q
   .subst e;rw[hy]at hz;injection hz with hz;omega
   .have:=i9 hasc hy hz U;omega
 .obtain rfl:i=j:=U;refine⟨λhlt=>?_,λhge2=>?_⟩
  .obtain⟨b,o,x,rfl,hF,hbl,hx,e0⟩:=hs.int (k:=i) U;obtain⟨y,hy⟩:∃y,l[i]? = ω y:=⟨_,List.getElem?_eq_getElem U⟩;rw[hget i y hy]at hx;injection hx with hx;subst hx;refine⟨_,rfl,_,_,rfl,U,_,e0,λhya=>?_,λhya=>⟨U,_,e0,Fh _ ⟨_,rfl,λh=>Bool.noConfusion h,λ_=>?_⟩⟩⟩
   .have:y=a:=U;subst this;exact hK i true (λ_=>hy) (λh=>Bool.noConfusion h)
   .refine hK i false (λh=>Bool.noConfusion h) λ_ hm=>?_;obtain⟨k,hk⟩:=List.getElem?_of_mem hm;have g1:¬k<i:=λhk1=>by have:=ha k a hk1 hk;omega
    have g2:=hb i y (Nat.le_refl _) hy;by_cases e:k=i
    .subst e;rw[hy]at hk;injection hk with hk;omega
    .have:=i9 hasc hy hk U;omega
  .refine hK i false (λh=>Bool.noConfusion h) λ_ hm=>?_;obtain⟨k,hk⟩:=List.getElem?_of_mem hm;have hkl:=(List.getElem?_eq_some_iff.1 hk).1;have:=ha k a U hk;omega
theorem iM {F:Nat->Prop}{l:List Nat}(a:Nat) (hs:Sa cI F h A n K (ints l)) (hasc:l.Pairwise (· < ·)) (hn:n<=100000) (hK:Q (ψ η (bK l a)) h):WC Tryz.prog 42 [ξ A n K,ψ η a] h Q:=by
 refine sk (DB a hs hasc hn λi b h1 h2=>⟨_,_,rfl,λhb=>?_,λhb=>?_⟩)
 .have h1:=h1 hb;have hm:=List.mem_of_getElem? h1
  rwa [bK,if_pos hm,fE hasc (aP hm) h1]at hK
 .rwa [bK,if_neg (h2 hb)]at hK
end
end Eva
end
section
open Go Go.RowKit
namespace Eva
structure eL (h:AH) (F:Nat->Prop) (o:Nat) (N:ab) (p:List (List Int)):Prop where
 own:F o/\o<h.next
 part:∃A n K,ldC h o 0=ω (ξ A n K)/\Sa bh F h A n K p
 from_:∃A n K,ldC h o 1=ω (ξ A n K)/\Sa cI F h A n K ((List.range N.na).map λa=>((N.fr a:Nat):Int))
 to_:∃A n K,ldC h o 2=ω (ξ A n K)/\Sa cI F h A n K ((List.range N.na).map λa=>((N.to a:Nat):Int))
 gates:∃A n K,ldC h o 3=ω (ξ A n K)/\Sa (Rc.slice Rc.gate) F h A n K ((List.range p.length).map λj=>N.gatesL p (j+1))
 starts:∃A n K,ldC h o 4=ω (ξ A n K)/\Sa bh F h A n K ((List.range p.length).map λj=>N.startsL p (j+1))
 size:ldC h o 5=ω (ψ η ((N.size p:Nat):Int))
 hp:aB N.nv p
 few:N.size p<=10000000
 ok:N.Ok
 nfew:N.nv<=1000/\N.na<=1000
section
variable {h h':AH}{F:Nat->Prop}{o:Nat}{N:ab}{p:List (List Int)}{Q:Value->AH->Prop}
theorem eL.keep (O:eL h F o N p) (hF:∀b,F b->b<h.next->h'.get b=h.get b) (hn:h.next<=h'.next):eL h' F o N p:=by
 have hc:∀i,ldC h' o i=ldC h o i:=λi=>be (hF o O.own.1 O.own.2) i;refine⟨⟨O.own.1,Nat.lt_of_lt_of_le O.own.2 hn⟩,?_,?_,?_,?_,?_,(hc 5).trans O.size,O.hp,O.few,O.ok,O.nfew⟩
 .obtain⟨A,n,c,h1,h2⟩:=O.part;exact⟨A,n,c,(hc 0).trans h1,h2.keep hF hn⟩
 .obtain⟨A,n,c,h1,h2⟩:=O.from_;exact⟨A,n,c,(hc 1).trans h1,h2.keep hF hn⟩
 .obtain⟨A,n,c,h1,h2⟩:=O.to_;exact⟨A,n,c,(hc 2).trans h1,h2.keep hF hn⟩
 .obtain⟨A,n,c,h1,h2⟩:=O.gates;exact⟨A,n,c,(hc 3).trans h1,h2.keep hF hn⟩
 .obtain⟨A,n,c,h1,h2⟩:=O.starts;exact⟨A,n,c,(hc 4).trans h1,h2.keep hF hn⟩
theorem eL.nw (O:eL h F o N p) (a:Nw h h'):eL h' F o N p:=O.keep (λb _ hb=>a.get b hb) a.next
theorem eL.off (O:eL h F o N p){S:Nat->Prop}(a:Mt S h h') (hS:∀b,F b->¬S b):eL h' F o N p:=O.keep (λb hb hlt=>a.get b hlt (hS b hb)) a.next
theorem eL.gate_ (O:eL h F o N p){k c:Nat}(hk:k<p.length) (hc:c<aq p (k+1)) :
  ∃b1 o1 n1 K1 b2 o2 K2 A3 K3 A4 K4,ldC h o 3=ω (ξ (ω ⟨b1,o1,ν⟩) n1 K1)/\k<n1/\b1<h.next/\ldC h b1 (o1+k)=ω (ξ (ω ⟨b2,o2,ν⟩) (aq p (k+1)) K2)/\b2<h.next/\
   ldC h b2 (o2+c*2)=ω (ξ A3 (N.ins p (k+1) c).length K3)/\ldC h b2 (o2+c*2+1)=ω (ξ A4 (N.outs p (k+1) c).length K4)/\Sa cI F h A3 (N.ins p (k+1) c).length K3 (ints (N.ins p (k+1) c))/\Sa cI F h A4 (N.outs p (k+1) c).length K4 (ints (N.outs p (k+1) c)):=by
 obtain⟨A1,n1,K1,g1,s1⟩:=O.gates;have hn1:p.length=n1:=by have:=s1.len;simpa using this
 obtain⟨b1,o1,A2,n2,K2,x,rfl,-,l1,hx,e1,s2⟩:=s1.row (k:=k) U;have hx2:x=N.gatesL p (k+1):=by simp[hk]at hx;exact hx.symm
 subst hx2;have hn2:aq p (k+1)=n2:=by have:=s2.len;simpa[ab.gatesL]using this
 subst hn2;obtain⟨b2,o2,A3,n3,K3,A4,n4,K4,x,y,rfl,-,l2,hy,e2,e3,s3,s4⟩:=s2.gate (k:=c) hc;have hy2:(x,y)=(ints (N.ins p (k+1) c),ints (N.outs p (k+1) c)):=by simp[ab.gatesL,hc]at hy;rw[<-hy.1,<-hy.2]
 injection hy2 with h1 h2;subst h1 h2;have q3:(N.ins p (k+1) c).length=n3:=by simpa[ints]using s3.len
 have q4:(N.outs p (k+1) c).length=n4:=by simpa[ints]using s4.len
 subst q3 q4;exact⟨b1,o1,n1,K1,b2,o2,K2,A3,K3,A4,K4,g1,U,l1,e1,l2,e2,e3,s3,s4⟩
theorem eL.row_ (O:eL h F o N p){k:Nat}(hk:k<p.length) :
  ∃b1 o1 n1 K1 A2 K2,ldC h o 4=ω (ξ (ω ⟨b1,o1,ν⟩) n1 K1)/\n1=p.length/\b1<h.next/\ldC h b1 (o1+k)=ω (ξ A2 (aq p (k+1)) K2)/\Sa cI F h A2 (aq p (k+1)) K2 (N.startsL p (k+1)):=by
 obtain⟨A1,n1,K1,g1,s1⟩:=O.starts;have hn1:p.length=n1:=by have:=s1.len;simpa using this
 obtain⟨b1,o1,A2,n2,K2,x,rfl,-,l1,hx,e1,s2⟩:=s1.row (k:=k) U;have hx2:x=N.startsL p (k+1):=by simp[hk]at hx;exact hx.symm
 subst hx2;have hn2:aq p (k+1)=n2:=by have:=s2.len;simpa[ab.startsL]using this
 subst hn2;exact⟨b1,o1,n1,K1,A2,K2,g1,hn1.symm,l1,e1,s2⟩
theorem Fj {A:Option Addr}{k n K:Nat}(hs:Sa cI F h A n K (N.startsL p k)){c:Nat}(hc:c<aq p k):∃b o,A=ω ⟨b,o,ν⟩/\b<h.next/\ldC h b (o+c)=ω (ψ η ((N.start p k c:Nat):Int)):=by
 have hn:aq p k=n:=by have:=hs.len;simpa[ab.startsL]using this
 obtain⟨b,o,x,rfl,-,l,hx,e⟩:=hs.int (k:=c) U;have:x=((N.start p k c:Nat):Int):=by simp[ab.startsL,hc]at hx;exact hx.symm
 subst this;exact⟨b,o,rfl,l,e⟩
theorem xX (O:eL h F o N p) (hK:Q (ψ η ((N.size p:Nat):Int)) h):WC Tryz.prog 36 [μ (ω ⟨o,0,ν⟩)] h Q:=lL ⟨_,_,rfl,_,O.size,hK⟩
theorem sU (O:eL h F o N p) (hK:Q (ψ η (p.length:Int)) h):WC Tryz.prog 34 [μ (ω ⟨o,0,ν⟩)] h Q:=by
 obtain⟨A,n,K,c0,s⟩:=O.part;have hn:p.length=n:=s.len;rw[hn]at hK;exact jH ⟨_,_,rfl,_,_,_,c0,hK⟩
theorem sV (O:eL h F o N p){k:Nat}(hk1:1<=k) (hk:k<=p.length) (hK:Q (ψ η (aq p k:Int)) h):WC Tryz.prog 143 [μ (ω ⟨o,0,ν⟩),ψ η k] h Q:=by
 obtain⟨A1,n1,K1,g1,s1⟩:=O.gates;have hn1:p.length=n1:=by have:=s1.len;simpa using this
 obtain⟨j,rfl⟩:∃j,k=j+1:=⟨k - 1,U⟩;obtain⟨b1,o1,A2,n2,K2,x,rfl,-,l1,hx,e1,s2⟩:=s1.row (k:=j) U;have hlt:j<p.length:=U;have hx2:x=N.gatesL p (j+1):=by simp[hlt]at hx;exact hx.symm
 subst hx2;have hn2:aq p (j+1)=n2:=by have:=s2.len;simpa[ab.gatesL]using this
 subst hn2;have hp6:=O.hp.few;refine kx ⟨λh=>absurd h U,λ_=>?_⟩;refine⟨_,_,rfl,_,_,_,g1,λh=>absurd h U,λ_=>?_⟩;exact⟨_,_,_,g1,_,af U U,j,U,_,_,rfl,U,_,_,_,e1,hK⟩
theorem zv (O:eL h F o N p){k c:Nat}(hk1:1<=k) (hk:k<=p.length) (hc:c<aq p k) (hK:Q (.bool true) h):WC Tryz.prog 87 [μ (ω ⟨o,0,ν⟩),ψ η k,ψ η c] h Q:=
 mK ⟨λ_=>sV O hk1 hk ⟨_,rfl,λ_=>hK,λh=>absurd h U⟩,λh=>absurd h U⟩
theorem wF {A:Option Addr}{n K:Nat}{xs:List Int}(hs:Sa cI F h A n K xs) (hn:n<=100000) (hK:∀A' K' h',Sa cI (λb=>h.next<=b) h' A' n K' xs->Nw h h'->Q (ξ A' n K') h'):WC Tryz.prog 88 [ξ A n K] h Q:=by
 obtain⟨A',K',h',x1,x2,x3⟩:=Et hs hn (Nw.refl h) (al.nil cI h (λb=>h.next<=b) _);exact si ⟨A',n,K',h',x1,hK _ _ _ x2 x3⟩
theorem uI (O:eL h F o N p){k c:Nat}(hk1:1<=k) (hk:k<=p.length) (hc:c<aq p k)
  (hK:∀A K B L h',Sa cI (λb=>h.next<=b) h' A (N.ins p k c).length K (ints (N.ins p k c))->Sa cI (λb=>h.next<=b) h' B (N.outs p k c).length L (ints (N.outs p k c))->Nw h h'->Q (.agg #[ξ A (N.ins p k c).length K,.slice B (N.outs p k c).length L]) h') :
  WC Tryz.prog 40 [μ (ω ⟨o,0,ν⟩),ψ η k,ψ η c] h Q:=by
 obtain⟨k,rfl⟩:∃k',k=k' + 1:=⟨k - 1,U⟩;have hp6:=O.hp.few;have hna:=O.nfew.2;refine lM λh1 e1=>?_;obtain⟨k1,g1,z1⟩:=aj e1;have O1:=O.nw k1;obtain⟨b1,o1,n1,K1,b2,o2,K2,A3,K3,A4,K4,c3,hkn,l1,e2,l2,e3,e4,s3,s4⟩:=O1.gate_ (k:=k) U hc;have hi3:(N.ins p (k+1) c).length<=1000:=Nat.le_trans (aE _ _) hna;have hi4:(N.outs p (k+1) c).length<=1000:=Nat.le_trans (aE _ _) hna;obtain⟨ni,hni⟩:∃ni,(N.ins p (k+1) c).length=ni:=⟨_,rfl⟩;obtain⟨no,hno⟩:∃no,(N.outs p (k+1) c).length=no:=⟨_,rfl⟩;rw[hni]at e3 s3 hi3 hK;rw[hno]at e4 s4 hi4 hK;refine zv O1 hk1 hk hc ⟨_,rfl,λ_=>?_,λh=>Bool.noConfusion h⟩;refine⟨_,_,rfl,_,_,_,c3,_,af U U,k,U,_,_,rfl,hkn,_,_,_,e2,c,rfl,_,_,rfl,hc,_,_,_,_,_,_,qp e3 e4,λh3 e5=>?_⟩;obtain⟨h4,hs4,k4,g4,z4⟩:=aC (vs:=[ξ A3 ni K3,ξ A4 no K4]) e5 rfl (dH rfl rfl);have y0:ldC h4 h1.next 0=ω (ξ A3 ni K3):=aa g4 rfl;have y1:ldC h4 h1.next 1=ω (ξ A4 no K4):=aa g4 rfl;refine⟨h4,hs4,_,_,_,y0,_,_,_,y1,wF (s3.nw k4) U λA5 K5 h5 s5 k5=>⟨_,_,_,rfl,(k5.ldC U _).trans y1,(s4.eqok),?_⟩⟩;refine wF (s4.nw (k4.trans k5)) U λA6 K6 h6 s6 k6=>⟨_,_,_,rfl,?_⟩;have hz4:h4.next=h.next+2:=U;have k6':Nw h1 h6:=(k4.trans k5).trans k6;have g6:Bk h6 h.next [ξ ν 0 0,ξ ν 0 0] 113:=k6'.bk U g1;have n5:=k5.next;have n6:=k6.next;obtain⟨h7,hs7,g7,z7,hot⟩:=bL (vs:=[ξ A5 ni K5,ξ A6 no K6]) g6 rfl (dH rfl rfl);refine⟨h7,hs7,_,_,_,_,_,_,bX g7 (by simp),?_⟩;have hMt:Mt (λb=>b=h.next) h6 h7:=⟨U,λb _ hb=>hot b hb⟩;refine hK _ _ _ _ _ ?_ ?_ (hMt.is_nw (k1.trans k6') (λb hb=>U))
 .exact(((s5.nw k6).off hMt (λb hb e=>U)).mono λb hb _=>U)
 .exact((s6.off hMt (λb hb e=>U)).mono λb hb _=>U)
theorem Hf (O:eL h F o N p){k c i j:Nat}(hk1:1<=k) (hk:k<=p.length) (hc:c<aq p k) (hi:i<(N.ins p k c).length) (hj:j<(N.outs p k c).length)
  (hK:∀h',Nw h h'->Q (ψ η ((N.start p k c+(i*(N.outs p k c).length+j):Nat):Int)) h'):WC Tryz.prog 41 [μ (ω ⟨o,0,ν⟩),ψ η k,ψ η c,ψ η i,ψ η j] h Q:=by
 have hse:=ab.start_end (N:=N) hk1 hk hc;have hpl:=mA hi hj;have hfw:=O.few;unfold ab.sz at hse;obtain⟨k,rfl⟩:∃k',k=k' + 1:=⟨k - 1,U⟩;have hp6:=O.hp.few;obtain⟨b1,o1,n1,K1,b2,o2,K2,A3,K3,A4,K4,c3,hkn,l1,e2,l2,e3,e4,s3,s4⟩:=O.gate_ (k:=k) U hc;obtain⟨b5,o5,n5,K5,A6,K6,c4,hn5,l5,e5,s6⟩:=O.row_ (k:=k) U;obtain⟨b6,o6,rfl,l6,e6⟩:=Fj s6 hc;obtain⟨ni,hni⟩:∃ni,(N.ins p (k+1) c).length=ni:=⟨_,rfl⟩;obtain⟨no,hno⟩:∃no,(N.outs p (k+1) c).length=no:=⟨_,rfl⟩;rw[hni]at e3 s3 hi hpl hse;rw[hno]at e4 s4 hj hK hpl hse;refine cB (zv O hk1 hk hc ⟨_,rfl,λ_=>?_,λh=>Bool.noConfusion h⟩);refine⟨_,_,rfl,_,_,_,c3,_,af U U,k,U,_,_,rfl,hkn,_,_,_,e2,c,rfl,_,_,rfl,hc,_,_,_,_,_,_,qp e3 e4,λh2 e7=>?_⟩;obtain⟨h3,hs3,k3,g3,z3⟩:=aC (vs:=[ξ A3 ni K3,ξ A4 no K4]) e7 rfl (dH rfl rfl);have y0:ldC h3 h.next 0=ω (ξ A3 ni K3):=aa g3 rfl;have y1:ldC h3 h.next 1=ω (ξ A4 no K4):=aa g3 rfl;obtain⟨t,ht⟩:∃t,i*no=t:=⟨_,rfl⟩;rw[ht]at hpl hK;have w1:IntKind.i64.wrap ((i:Int)*(no:Int))=(t:Int):=by rw[<-Int.natCast_mul,ht];exact af U U
 have w2:IntKind.i64.wrap (((N.start p (k+1) c:Nat):Int)+(t:Int))=((N.start p (k+1) c+t:Nat):Int):=by rw[Int.natCast_add];exact af U U
 have w3:IntKind.i64.wrap (((N.start p (k+1) c+t:Nat):Int)+(j:Int))=((N.start p (k+1) c+(t+j):Nat):Int):=by rw[<-Nat.add_assoc,Int.natCast_add _ j];exact af U U
 refine⟨h3,hs3,λh=>absurd h U,λ_=>⟨_,_,_,y0,λh=>absurd h U,λ_=>⟨λh=>absurd h U,λ_=>⟨_,_,_,y1,λh=>absurd h U,λ_=>?_⟩⟩⟩⟩;exact⟨_,_,_,(k3.ldC O.own.2 _).trans c4,_,af U U,k,U,_,_,rfl,U,_,_,_,(k3.ldC l5 _).trans e5,_,_,rfl,hc,_,(k3.ldC l6 _).trans e6,_,_,_,y1,_,w1,_,w2,_,w3,hK _ k3⟩
end
end Eva
end
section
open Go Go.RowKit
namespace Eva
theorem jg {h:AH}{b k:Nat}{xs:List Int}{x:Int}{t:TypeId}(hb:Bk h b (xs.map (Value.int .i64)) t) (hx:xs[k]? = ω x):ldC h b (0+k)=ω (ψ η x):=by
 rw[aT hb,Nat.zero_add];simp[hx]
theorem cP {h:AH}{b k:Nat}{xs:List Int}{t:TypeId}(hb:Bk h b (xs.map (Value.int .i64)) t) (hk:k<xs.length) (x:Int) :
  ∃h2,iE h b (0+k) [ψ η x]=ω h2/\Bk h2 b ((xs.set k x).map (Value.int .i64)) t/\h2.next=h.next/\∀b',b'≠b->h2.get b' = h.get b':=by
 obtain⟨h2,h1,h3,h4,h5⟩:=aD (v:=ψ η x) hb (o:=0+k) (by simpa using hk) rfl;refine⟨h2,h1,?_,h4,h5⟩;rw[Nat.zero_add,<-List.map_set]at h3;exact h3
def cm (h:AH) (A:Option Addr) (n K:Nat) (xs:List Int):Prop:=
 xs.length=n/\((A=ν/\n=0/\K=0)\/∃g c rest,A=ω ⟨g,0,ν⟩/\g<h.next/\K=cl c/\0<c/\rest.length+n=c/\Bk h g (xs.map (Value.int .i64) ++ rest) 3)
section
variable {h h':AH}{A:Option Addr}{n K:Nat}{xs:List Int}
theorem cm.keep (o:cm h A n K xs) (hk:∀b,ah A b->b<h.next->h'.get b=h.get b) (hn:h.next<=h'.next):cm h' A n K xs:=by
 obtain⟨hl,o⟩:=o;refine⟨hl,?_⟩;rcases o with o | ⟨g,c,rest,rfl,h1,h2,h3,h4,h5⟩
 .exact .inl o
 .exact .inr ⟨g,c,rest,rfl,Nat.lt_of_lt_of_le h1 hn,h2,h3,h4,(hk g rfl h1).trans h5⟩
theorem cm.read (o:cm h A n K xs){i:Nat}{x:Int}(hx:xs[i]? = ω x):∃g,A=ω ⟨g,0,ν⟩/\g<h.next/\i<n/\ldC h g (0+i)=ω (ψ η x):=by
 obtain⟨hl,o⟩:=o;have hi:=(List.getElem?_eq_some_iff.1 hx).1;rcases o with⟨_,h1,_⟩ | ⟨g,c,rest,rfl,h1,h2,h3,h4,h5⟩
 .omega
 .refine⟨g,rfl,h1,U,?_⟩;rw[aT h5,Nat.zero_add,List.getElem?_append_left (by simpa using hi)];simp[hx]
theorem cm.store {g:Nat}(o:cm h (ω ⟨g,0,ν⟩) n K xs){i:Nat}(hi:i<n) (x:Int):∃h1,iE h g (0+i) [ψ η x]=ω h1/\cm h1 (ω ⟨g,0,ν⟩) n K (xs.set i x)/\h1.next=h.next/\∀b,b≠g->h1.get b=h.get b:=by
 obtain⟨hl,o⟩:=o;rcases o with⟨h0,_,_⟩ | ⟨g',c,rest,hA,h1,h2,h3,h4,h5⟩
 .cases h0
 .injection hA with hA;injection hA with hA;subst hA;obtain⟨hh,q1,q2,q3,q4⟩:=aD (v:=ψ η x) h5 (o:=0+i) (by simp;omega) rfl;refine⟨hh,q1,⟨by simp[hl],.inr ⟨g,c,rest,rfl,U,h2,h3,h4,?_⟩⟩,q3,q4⟩;rw[Nat.zero_add,List.set_append_left _ _ (by simp;omega),<-List.map_set]at q2;exact q2
theorem cm.cut (o:cm h A n K xs){m:Nat}(hm:m<=n) (hA:0<n):cm h A m K (xs.take m)/\aG Tryz.prog 3 A n K ν (ω m) ν=ω (ξ A m K):=by
 obtain⟨hl,o⟩:=o;rcases o with⟨_,h1,_⟩ | ⟨g,c,rest,rfl,h1,h2,h3,h4,h5⟩
 .omega
 .refine⟨⟨by simp;omega,.inr ⟨g,c,(xs.drop m).map (Value.int .i64) ++ rest,rfl,h1,h2,h3,by simp;omega,?_⟩⟩,?_⟩
  .rw[<-List.append_assoc,<-List.map_append,List.take_append_drop];exact h5
  .obtain⟨i,hi,hsz⟩:∃i,Tryz.prog.info? 3=ω i/\i.size=1:=by
    obtain⟨i,q1,q2,-⟩:=bo dC;exact⟨i,q1,q2⟩
   unfold aG;rw[hi];have hc2:K / 2=c:=by rw[h2];unfold cl;omega
   have hp:Nat.beq (K % 2) 0=false:=by
    have:K % 2=1:=by rw[h2];unfold cl;omega
    rw[this];rfl
   have hb1:Nat.ble m (K / 2)=true:=Nat.ble_eq_true_of_le U;have hb0:Nat.ble 0 m=true:=Nat.ble_eq_true_of_le (Nat.zero_le _);have hlt:Nat.blt 0 (K / 2)=true:=Nat.ble_eq_true_of_le U;show cond (Option.isNone (none:Option Nat) || Option.isSome (ω m)) (cT i.size (ω ⟨g,0,ν⟩) n K ((none:Option Nat).getD 0) (ω m) ν) ν=_;simp only[Option.isNone_none,Bool.true_or,cond_true,Option.getD_none];unfold cT;simp only[Option.getD_some,hb1,hb0,Bool.and_self,cond_true,hp,cond_false];unfold nI;rw[hlt];simp only[cond_true,Nat.sub_zero,Nat.zero_mul,Option.map_some];rw[hc2,h2];rfl
theorem cm.app (o:cm h A n K xs){B L:Nat}{x:Int}(hB:ldC h B 0=ω (ψ η x)) (hn:n<100000) :
  ∃A' K' h1,ai Tryz.prog h (ω (.slice 3)) (ω (.slice 3)) (ξ A n K) (ξ (ω ⟨B,0,ν⟩) 1 L)=ω (ξ A' (n+1) K',h1)/\cm h1 A' (n+1) K' (xs ++ [x])/\h.next<=h1.next/\(∀b,b<h.next->¬ah A b->h1.get b=h.get b)/\(∀b,ah A' b->ah A b\/(h.next<=b/\b<h1.next)):=by
 obtain⟨hl,o⟩:=o;have hap:=kV (P:=Tryz.prog) (h:=h) (e:=3) (size:=1) (bytes:=8) (A:=A) (K:=K) (L:=L) (B:=ω ⟨B,0,ν⟩) (n:=n) (m:=1) (cells:=[ψ η x]) dC rfl (by simp[flat]) (λ_=>⟨B,0,rfl,λj u hj=>by
  match j,hj with
  | 0,hj=>injection hj with hj;subst hj;exact hB⟩) U U
 rcases o with⟨rfl,rfl,rfl⟩ | ⟨g,c,rest,rfl,h1,h2,h3,h4,h5⟩
 .have hxs:xs = []:=List.eq_nil_of_length_eq_zero hl;subst hxs;obtain⟨k1,k2,k3⟩:=aj (h:=h) (ao:=.cells [ψ η x] 3 false) rfl;refine⟨ω ⟨h.next,0,ν⟩,cl 1,_,hap,⟨rfl,.inr ⟨h.next,1,[],rfl,by rw[k3];omega,rfl,U,rfl,k2⟩⟩,k1.next,λb hb _=>k1.get b hb,λb hb=>.inr ?_⟩;have:b=h.next:=hb;rw[k3];omega
 .by_cases hroom:n+1<=c
  .have hble:Nat.ble (n+1) (K / 2)=true:=Nat.ble_eq_true_of_le (by rw[h2];unfold cl;omega);rw[hble]at hap;simp only[cond_true]at hap;obtain⟨hh,q1,q2,q3,q4⟩:=aD (v:=ψ η x) h5 (o:=n) (by simp;omega) rfl;have hadd:(⟨g,0,ν⟩:Addr).add (n*1)=⟨g,n,ν⟩:=by
    rw[Nat.mul_one];unfold Addr.add
    split
    .rename_i h0;subst h0;rfl
    .simp
   have hst:da h ((⟨g,0,ν⟩:Addr).add (n*1)) [ψ η x]=ω hh:=by rw[hadd];exact q1
   refine⟨ω ⟨g,0,ν⟩,K,hh,?_,⟨by simp[hl],.inr ⟨g,c,rest.drop 1,rfl,U,h2,h3,by simp;omega,?_⟩⟩,U,λb hb hne=>q4 b (λe=>hne e),λb hb=>.inl hb⟩
   .rw[hap];unfold nR;simp only[show Nat.beq 1 0=false from rfl,cond_false,hst]
   .obtain⟨r0,rs,hr⟩:∃r0 rs,rest=r0 :: rs:=by
     cases hrest:rest with
     | nil=>rw[hrest]at h4;simp at h4;omega
     | cons a l=>exact⟨a,l,rfl⟩
    subst hr;rw[List.set_append_right _ _ (by simp;omega)]at q2;have hz:n - (xs.map (Value.int .i64)).length=0:=by simp;omega
    rw[hz]at q2;simpa using q2
  .have hnc:n=c:=U;have hnle:Nat.ble (n+1) (K / 2)=false:=by
    cases hb:Nat.ble (n+1) (K / 2) with
    | false=>rfl
    | true=>have:=Nat.le_of_ble_eq_true hb;rw[h2]at this;unfold cl at this;omega
   rw[hnle]at hap;simp only[cond_false]at hap;have hrest:rest = []:=List.eq_nil_of_length_eq_zero U;subst hrest;rw[List.append_nil]at h5;have hcell:aY h g=ω (xs.map (Value.int .i64),3,false):=by unfold aY;rw[h5]
   have hcut:nF (xs.map (Value.int .i64)) 0 (n*1)=ω (xs.map (Value.int .i64)):=by
    rw[sT (by simp;omega)];rw[List.drop_zero,List.take_of_length_le (by simp;omega)]
   have hp:Nat.beq (K % 2) 0=false:=by
    have:K % 2=1:=by rw[h2];unfold cl;omega
    rw[this];rfl
   have hout:fG h 3 1 (ω ⟨g,0,ν⟩) n K 1 [ψ η x]=ω (mH (n+1) (cl (n+1)) h.next,(h.del g).new (.cells (xs.map (Value.int .i64) ++ [ψ η x]) 3 false)):=by
    unfold fG;simp only[hcell,hcut,hp,cond_false,Nat.beq_refl,Bool.not_false,Bool.and_self,cond_true]
   rw[hout]at hap;refine⟨ω ⟨h.next,0,ν⟩,cl (n+1),_,hap,⟨by simp[hl],.inr ⟨h.next,n+1,[],rfl,by rw[go,iL];omega,rfl,U,by simp,?_⟩⟩,by rw[go,iL];omega,λb hb hne=>?_,λb hb=>.inr ?_⟩
   .rw[Bk,get_new,iL,if_pos rfl];simp
   .have hbg:b≠g:=λe=>hne e;rw[get_new,iL,if_neg U,get_del,if_neg hbg]
   .have:b=h.next:=hb;rw[go,iL];omega
end
structure bB (h:AH) (S:Nat->Prop) (hp N:Nat) (row:List Nat) (costs:List Int) (A:Option Addr) (K Bc Bs:Nat) (seats:List Int):Prop where
 blk:Bk h hp [ξ A row.length K,ξ (ω ⟨Bc,0,ν⟩) N (cx N),ξ (ω ⟨Bs,0,ν⟩) N (cx N)] 284
 bc:Bk h Bc (costs.map (Value.int .i64)) 2
 bs:Bk h Bs (seats.map (Value.int .i64)) 3
 own:cm h A row.length K (ei row)
 lt3:hp<h.next/\Bc<h.next/\Bs<h.next
 inS:S hp/\S Bc/\S Bs
 ne:hp≠Bc/\hp≠Bs/\Bc≠Bs
 far:∀g,ah A g->S g/\g≠hp/\g≠Bc/\g≠Bs
 cl:costs.length=N
 nN:N<=16384
 lt:∀k∈row,k<N
 nodup:row.Nodup
 cbd:∀c∈costs,0<=c/\c<=1152921504606846976
 seat:gU N row seats
section
variable {h h':AH}{S:Nat->Prop}{hp N:Nat}{row:List Nat}{costs:List Int}{A:Option Addr}{K Bc Bs:Nat}{seats:List Int}{Q:Value->AH->Prop}
theorem bB.few (H:bB h S hp N row costs A K Bc Bs seats):row.length<=N:=jb H.nodup H.lt
theorem bB.keep (H:bB h S hp N row costs A K Bc Bs seats) (hk:∀b,S b->b<h.next->h'.get b=h.get b) (hn:h.next<=h'.next):bB h' S hp N row costs A K Bc Bs seats:=
 ⟨(hk _ H.inS.1 H.lt3.1).trans H.blk,(hk _ H.inS.2.1 H.lt3.2.1).trans H.bc,(hk _ H.inS.2.2 H.lt3.2.2).trans H.bs,H.own.keep (λb hb hlt=>hk b (H.far b hb).1 hlt) hn,
  ⟨Nat.lt_of_lt_of_le H.lt3.1 hn,Nat.lt_of_lt_of_le H.lt3.2.1 hn,Nat.lt_of_lt_of_le H.lt3.2.2 hn⟩,H.inS,H.ne,H.far,H.cl,H.nN,H.lt,H.nodup,H.cbd,H.seat⟩
theorem bB.cost (H:bB h S hp N row costs A K Bc Bs seats){k:Nat}(hk:k<N):∃c,costs[k]? = ω c/\ldC h Bc (0+k)=ω (ψ η c)/\0<=c/\c<=1152921504606846976:=by
 have hl:k<costs.length:=by rw[H.cl];exact hk
 have h1:costs[k]? = ω costs[k]:=List.getElem?_eq_getElem hl;exact⟨costs[k],h1,jg H.bc h1,H.cbd _ (List.getElem_mem hl)⟩
theorem bB.seatAt (H:bB h S hp N row costs A K Bc Bs seats){k:Nat}(hk:k<N):∃s,seats[k]? = ω s/\ldC h Bs (0+k)=ω (ψ η s):=by
 have hl:k<seats.length:=by rw[H.seat.1];exact hk
 have h1:seats[k]? = ω seats[k]:=List.getElem?_eq_getElem hl;exact⟨seats[k],h1,jg H.bs h1⟩
theorem bB.c0 (H:bB h S hp N row costs A K Bc Bs seats):ldC h hp 0=ω (ξ A row.length K):=aa H.blk rfl
theorem bB.c1 (H:bB h S hp N row costs A K Bc Bs seats):ldC h hp 1=ω (ξ (ω ⟨Bc,0,ν⟩) N (cx N)):=aa H.blk rfl
theorem bB.c2 (H:bB h S hp N row costs A K Bc Bs seats):ldC h hp 2=ω (ξ (ω ⟨Bs,0,ν⟩) N (cx N)):=aa H.blk rfl
theorem HF (H:bB h S hp N row costs A K Bc Bs seats){k:Nat}(hk:k<N) (hK:Q (.bool true) h):WC Tryz.prog 156 [μ (ω ⟨hp,0,ν⟩),ψ η k] h Q:=
 mN ⟨λ_=>⟨_,_,rfl,_,_,_,H.c2,λ_=>hK,λh=>absurd h U⟩,λh=>absurd h U⟩
theorem BO {i j a b:Nat}(H:bB h S hp N row costs A K Bc Bs seats) (hi:row[i]? = ω a) (hj:row[j]? = ω b) (hK:Q (.bool (jW costs a b)) h):WC Tryz.prog 228 [μ (ω ⟨hp,0,ν⟩),ψ η i,ψ η j] h Q:=by
 obtain⟨g,rfl,hg,hil,e0⟩:=H.own.read (dh hi);obtain⟨g',hA,-,hjl,f0⟩:=H.own.read (dh hj);injection hA with hA;injection hA with hA;subst hA;have ha:=H.lt a (List.mem_of_getElem? hi);have hb:=H.lt b (List.mem_of_getElem? hj);obtain⟨x,hx,x0,-,-⟩:=H.cost ha;obtain⟨y,hy,y0,-,-⟩:=H.cost hb;have hq:jW costs a b=decide (x<y\/(x=y/\a<b)):=by simp[jW,List.getD_eq_getElem?_getD,hx,hy]
 rw[hq]at hK;refine kz ⟨_,_,rfl,_,_,_,H.c0,_,rfl,_,_,rfl,hil,_,e0,_,_,_,H.c0,_,rfl,_,_,rfl,hjl,_,f0,_,_,_,H.c1,_,rfl,_,_,rfl,ha,_,x0,_,_,_,H.c1,_,rfl,_,_,rfl,hb,_,y0,λhxy=>⟨λhab=>?_,λhab=>?_⟩,λhxy=>⟨_,_,_,H.c1,_,_,rfl,ha,_,x0,_,_,_,H.c1,_,_,rfl,hb,_,y0,λhlt=>?_,λhlt=>?_⟩⟩
 .rwa [decide_eq_true (.inr ⟨hxy,U⟩)]at hK
 .rwa [decide_eq_false U]at hK
 .rwa [decide_eq_true (.inl hlt)]at hK
 .rwa [decide_eq_false U]at hK
theorem BP {i j a b:Nat}(H:bB h S hp N row costs A K Bc Bs seats) (hi:row[i]? = ω a) (hj:row[j]? = ω b)
  (hK:∀h',bB h' S hp N (pM row i j) costs A K Bc Bs ((seats.set b ((i:Int)+1)).set a ((j:Int)+1))->Mt S h h'->h'.next=h.next->Q (.tuple #[]) h'):WC Tryz.prog 159 [μ (ω ⟨hp,0,ν⟩),ψ η i,ψ η j] h Q:=by
 obtain⟨g,rfl,hg,hil,e0⟩:=H.own.read (dh hi);obtain⟨g',hA,-,hjl,f0⟩:=H.own.read (dh hj);injection hA with hA;injection hA with hA;subst hA;have ha:=H.lt a (List.mem_of_getElem? hi);have hb:=H.lt b (List.mem_of_getElem? hj);have hN:=H.nN;have hfw:=H.few;obtain⟨hgS,gn1,gn2,gn3⟩:=H.far g rfl;obtain⟨n1,n2,n3⟩:=H.ne;obtain⟨h1,s1,o1,z1,k1⟩:=H.own.store hil (b:Int);obtain⟨h2,s2,o2,z2,k2⟩:=o1.store hjl (a:Int);have b2:∀c,c≠g->h2.get c=h.get c:=λc hc=>(k2 c hc).trans (k1 c hc);have y2:ldC h2 hp 2=ω (ξ (ω ⟨Bs,0,ν⟩) N (cx N)):=(be (b2 hp (Ne.symm gn1)) _).trans H.c2;have y0:ldC h2 hp 0=ω (ξ (ω ⟨g,0,ν⟩) row.length K):=(be (b2 hp (Ne.symm gn1)) _).trans H.c0;have hrow:((ei row).set i (b:Int)).set j (a:Int)=ei (pM row i j):=by
  rw[qV,qV,pM];simp[List.getD_eq_getElem?_getD,hi,hj]
 rw[hrow]at o2;have hsw:=λx=>dA hil hjl x;have hnewi:(pM row i j)[i]? = ω b:=by rw[hsw,if_pos rfl,hj]
 have hnewj:(pM row i j)[j]? = ω a:=by
  rw[hsw];by_cases e:j=i
  .subst e;rw[if_pos rfl];exact hi
  .rw[if_neg e,if_pos rfl,hi]
 obtain⟨q,hq,-,-,x0⟩:=o2.read (dh hnewi);injection hq with hq;injection hq with hq;subst hq;have bs2:Bk h2 Bs (seats.map (Value.int .i64)) 3:=(b2 Bs (Ne.symm gn3)).trans H.bs;have hsl:=H.seat.1;obtain⟨h3,s3,c3,z3,k3⟩:=cP bs2 (k:=b) U ((i:Int)+1);have o3:cm h3 (ω ⟨g,0,ν⟩) row.length K (ei (pM row i j)):=o2.keep (λc hc _=>k3 c (by have:c=g:=hc;omega)) U;obtain⟨q,hq,-,-,x1⟩:=o3.read (dh hnewj);injection hq with hq;injection hq with hq;subst hq;have y2':ldC h3 hp 2=ω (ξ (ω ⟨Bs,0,ν⟩) N (cx N)):=(be (k3 hp n2) _).trans y2;have y0':ldC h3 hp 0=ω (ξ (ω ⟨g,0,ν⟩) row.length K):=(be (k3 hp n2) _).trans y0;obtain⟨h4,s4,c4,z4,k4⟩:=cP c3 (k:=a) (by rw[List.length_set];omega) ((j:Int)+1);have oth:∀c,c≠g->c≠Bs->h4.get c=h.get c:=λc h1 h2=>((k4 c h2).trans (k3 c h2)).trans (b2 c h1);have hl9:(pM row i j).length=row.length:=jc _ _ _;refine lQ ⟨_,_,rfl,_,_,_,H.c0,_,_,_,H.c0,_,_,_,H.c0,_,rfl,_,_,rfl,hjl,_,f0,_,_,_,H.c0,_,rfl,_,_,rfl,hil,_,e0,_,_,rfl,hil,h1,s1,_,_,rfl,hjl,h2,s2,_,_,_,y2,_,_,_,y0,_,_,rfl,hil,_,x0,_,af U U,_,rfl,_,_,rfl,hb,h3,s3,_,_,_,y2',_,_,_,y0',_,_,rfl,hjl,_,x1,_,af U U,_,rfl,_,_,rfl,ha,h4,s4,?_⟩;refine hK h4 ⟨?_,(oth Bc (Ne.symm gn2) n3).trans H.bc,c4,?_,⟨by have:=H.lt3;omega,by have:=H.lt3;omega,by have:=H.lt3;omega⟩,H.inS,H.ne,H.far,H.cl,H.nN,λk hk=>H.lt k ((kK hil hjl k).1 hk),zg hil hjl H.nodup,H.cbd,Bu H.seat H.nodup H.lt hi hj⟩ ⟨U,λc _ hc=>oth c (λe=>hc (e ▸ hgS)) (λe=>hc (e ▸ H.inS.2.2))⟩ U
 .rw[hl9];exact(oth hp (Ne.symm gn1) n2).trans H.blk
 .rw[hl9];exact o3.keep (λc hc _=>k4 c (by have:c=g:=hc;omega)) U
end
end Eva
end
section
open Go Go.RowKit
namespace Eva
section
variable {h h':AH}{S:Nat->Prop}{hp N:Nat}{row:List Nat}{costs:List Int}{A:Option Addr}{K Bc Bs:Nat}{seats:List Int}{Q:Value->AH->Prop}
theorem Gt {k:Nat}(hk:0<k) (hk2:k<=100000):IntKind.i64.wrap ((k:Int) - 1)=(k:Int) - 1/\IntKind.i64.wrap (Int.tdiv ((k:Int) - 1) 2)=(((k - 1) / 2:Nat):Int):=by
 have:Int.tdiv ((k:Int) - 1) 2=(((k - 1) / 2:Nat):Int):=by
  rw[Int.tdiv_eq_ediv_of_nonneg U];omega
 exact⟨af U U,by rw[this];exact af U U⟩
theorem IM {i:Nat}(H:bB h S hp N row costs A K Bc Bs seats) (hi:i<row.length) (hu:CY (jX costs) (pN row) row.length i)
  (hK:∀h' row' seats',bB h' S hp N row' costs A K Bc Bs seats'->row'.length=row.length->(∀k,k∈row'↔k∈row)->eB (jX costs) (pN row') row'.length->Mt S h h'->h'.next=h.next->Q (.tuple #[]) h') :
  WC Tryz.prog 158 [μ (ω ⟨hp,0,ν⟩),ψ η i] h Q:=by
 have hN:=H.nN;have hf:=H.few;refine oS ⟨λm x h1=>∃(k:Nat) (row':List Nat) (seats':List Int),x=k/\m=k/\k<row.length/\bB h1 S hp N row' costs A K Bc Bs seats'/\row'.length=row.length/\(∀k,k∈row'↔k∈row)/\CY (jX costs) (pN row') row'.length k/\Mt S h h1/\h1.next=h.next,i,⟨i,row,seats,rfl,rfl,hi,H,rfl,λ_=>Iff.rfl,hu,Mt.refl _ _,rfl⟩,?_⟩;rintro m x h1 ⟨k,row',seats',rfl,hmk,hk,H1,hl,hm,hu,hmt,hz⟩;subst m;refine⟨λhk0=>?_,λhk0=>?_⟩
 .obtain⟨w1,w2⟩:=Gt (k:=k) U U;obtain⟨p,hpp⟩:∃p,(k - 1) / 2=p:=⟨_,rfl⟩;rw[hpp]at w2;have hpk:p<k:=U;obtain⟨a,ha⟩:∃a,row'[k]? = ω a:=⟨_,List.getElem?_eq_getElem U⟩;obtain⟨b,hb⟩:∃b,row'[p]? = ω b:=⟨_,List.getElem?_eq_getElem U⟩;refine⟨_,w1,_,w2,BO H1 ha hb ⟨_,rfl,λht=>⟨_,w1,_,w2,BP H1 ha hb λh2 H2 m2 z2=>⟨rfl,_,w1,_,w2,p,hpk,p,_,_,rfl,rfl,U,H2,?_,λx=>?_,?_,hmt.then m2,U⟩⟩,λht=>?_⟩⟩
  .rw[jc];exact hl
  .rw[kK U U];exact hm x
  .rw[wy U U,jc,<-hpp];refine hu.step U U ?_;rw[hpp,cN ha,cN hb];exact qW ht
  .refine hK h1 row' seats' H1 hl hm (hu.done (.inr ?_)) hmt hz;rw[hpp,cN ha,cN hb];exact ux ht
 .exact hK h1 row' seats' H1 hl hm (hu.done (.inl U)) hmt hz
theorem Gu (H:bB h S hp N row costs A K Bc Bs seats) (hu:gi (jX costs) (pN row) row.length 0)
  (hK:∀h' row' seats',bB h' S hp N row' costs A K Bc Bs seats'->row'.length=row.length->(∀k,k∈row'↔k∈row)->eB (jX costs) (pN row') row'.length->Mt S h h'->h'.next=h.next->Q (.tuple #[]) h') :
  WC Tryz.prog 160 [μ (ω ⟨hp,0,ν⟩),ψ η 0] h Q:=by
 have hN:=H.nN;have hf:=H.few;refine lP ⟨λm x h1=>∃(k:Nat) (row':List Nat) (seats':List Int),x=k/\m=row.length - k/\(k<row.length\/k=0)/\bB h1 S hp N row' costs A K Bc Bs seats'/\row'.length=row.length/\(∀k,k∈row'↔k∈row)/\gi (jX costs) (pN row') row'.length k/\Mt S h h1/\h1.next=h.next,row.length,⟨0,row,seats,rfl,rfl,.inr rfl,H,rfl,λ_=>Iff.rfl,hu,Mt.refl _ _,rfl⟩,?_⟩;rintro m x h1 ⟨k,row',seats',rfl,rfl,hk,H1,hl,hm,hu,hmt,hz⟩;have hk9:k<=16384:=by rcases hk with h | h <;>omega
 have w0:IntKind.i64.wrap (2*(k:Int))=2*(k:Int):=af U U;have w1:IntKind.i64.wrap (2*(k:Int)+1)=((2*k+1:Nat):Int):=by rw[show(2*(k:Int)+1)=((2*k+1:Nat):Int) by omega];exact af U U
 have w2:IntKind.i64.wrap (2*(k:Int)+2)=2*(k:Int)+2:=af U U;refine⟨_,w0,_,w1,λm x y h2=>∃(q j:Nat),x=q/\y=j/\m=2*k+3 - j/\2*k+1<=j/\j<=2*k+3/\dU (jX costs) (pN row') row'.length k j q/\h2=h1,2,⟨k,2*k+1,rfl,rfl,U,U,U,dU.start _ _ _ _,rfl⟩,?_⟩;rintro m x y h2 ⟨q,j,rfl,rfl,rfl,hj1,hj2,hL,rfl⟩;have fin:(2*k+2<j\/row'.length<=j)->(((q:Nat):Int)=(k:Int)->Q (.tuple #[]) h2)/\(¬(((q:Nat):Int)=(k:Int))->WC Tryz.prog 159 [μ (ω ⟨hp,0,ν⟩),ψ η (k:Int),ψ η (q:Int)] h2 (λv2 h4=>v2 = .tuple #[]/\∃m':Nat,m' < row.length - k/\∃(k':Nat) (row'':List Nat) (seats'':List Int),((q:Nat):Int)=k'/\m' = row.length - k'/\(k' < row.length\/k' = 0)/\bB h4 S hp N row'' costs A K Bc Bs seats''/\row''.length=row.length/\(∀k,k∈row''↔k∈row)/\gi (jX costs) (pN row'') row''.length k'/\Mt S h h4/\h4.next=h.next)):=by
  intro hend;have hkids:∀x,0<x->x<row'.length->(x - 1) / 2=k->ja (jX costs) (pN row' q) (pN row' x):=λx h0 hx hxk=>hL.kid x U U hx;refine⟨λe=>?_,λe=>?_⟩
  .have:q=k:=U;subst this;exact hK h2 row' seats' H1 hl hm (hu.done hkids) hmt hz
  .rcases hL.who with e' | ⟨e1,e2,e3,e4⟩
   .exact absurd e' U
   .obtain⟨a,ha⟩:∃a,row'[k]? = ω a:=⟨_,List.getElem?_eq_getElem U⟩;obtain⟨b,hb⟩:∃b,row'[q]? = ω b:=⟨_,List.getElem?_eq_getElem e4⟩;refine BP H1 ha hb λh4 H4 m4 z4=>⟨rfl,row.length - q,U,q,_,_,rfl,rfl,.inl U,H4,by rw[jc];exact hl,λx=>by rw[kK U U];exact hm x,?_,hmt.then m4,U⟩;rw[wy U U,jc];exact hu.step U U e4 hL.own hkids
 have c0:=H1.c0;rw[hl]at c0;refine⟨_,w0,_,w2,λhc=>⟨_,_,rfl,_,_,_,c0,λhjn=>?_,λhjn=>fin (.inr U)⟩,λhc=>fin (.inl U)⟩;obtain⟨a,ha⟩:∃a,row'[j]? = ω a:=⟨_,List.getElem?_eq_getElem U⟩;have hq:q<row'.length:=by
  rcases hL.who with e | e
  .omega
  .exact e.2.2.2
 obtain⟨b,hb⟩:∃b,row'[q]? = ω b:=⟨_,List.getElem?_eq_getElem hq⟩;have wj:IntKind.i64.wrap ((j:Int)+1)=((j+1:Nat):Int):=by rw[Int.natCast_add];exact af U U
 refine BO H1 ha hb ⟨_,rfl,λht=>⟨_,wj,2*k+3 - (j+1),U,j,j+1,rfl,rfl,rfl,U,U,hL.yes hj1 U U ?_,rfl⟩,λht=>⟨_,wj,2*k+3 - (j+1),U,q,j+1,rfl,rfl,rfl,U,U,hL.no ?_,rfl⟩⟩
 .rw[cN ha,cN hb];exact qW ht
 .rw[cN ha,cN hb];exact ux ht
def bi (h:AH) (S:Nat->Prop) (hp N:Nat) (q:Nat->Option Nat):Prop:=
 ∃row costs A K Bc Bs seats,bB h S hp N row costs A K Bc Bs seats/\eB (jX costs) (pN row) row.length/\Bv row costs q/\∀b,S b->b<h.next
theorem bi.keep {q:Nat->Option Nat}(H:bi h S hp N q) (hk:∀b,S b->b<h.next->h'.get b=h.get b) (hn:h.next<=h'.next):bi h' S hp N q:=by
 obtain⟨row,costs,A,K,Bc,Bs,seats,h1,h2,h3,h4⟩:=H;exact⟨row,costs,A,K,Bc,Bs,seats,h1.keep hk hn,h2,h3,λb hb=>Nat.lt_of_lt_of_le (h4 b hb) hn⟩
theorem bi.nw {q:Nat->Option Nat}(H:bi h S hp N q) (a:Nw h h'):bi h' S hp N q:=H.keep (λb _ hb=>a.get b hb) a.next
theorem bi.off {q:Nat->Option Nat}(H:bi h S hp N q){S':Nat->Prop}(a:Mt S' h h') (hS:∀b,S b->¬S' b):bi h' S hp N q:=H.keep (λb hb hlt=>a.get b hlt (hS b hb)) a.next
theorem Fk (n:Nat) (hn:n<=16384) (hK:∀h' S' hp,bi h' S' hp n (λ_=>ν)->Nw h h'->(∀b,S' b->h.next<=b)->Q (μ (ω ⟨hp,0,ν⟩)) h'):WC Tryz.prog 78 [ψ η n] h Q:=by
 refine vY ⟨n,by rw[if_neg U],n,by rw[if_neg U],n,rfl,U,λh1 e1=>⟨U,λh2 e2 h3 e3=>?_⟩⟩;obtain⟨k1,g1,z1⟩:=aj e1;obtain⟨k2,g2,z2⟩:=aj e2;obtain⟨k3,g3,z3⟩:=aj e3;have hrep:dJ n [Value.int .i64 0]=(List.replicate n (0:Int)).map (Value.int .i64):=by rw[a9,List.map_replicate]
 rw[hrep]at g1 g2;refine hK h3 (λb=>b=h.next\/b=h1.next\/b=h2.next) h2.next ⟨[],List.replicate n 0,ν,0,h.next,h1.next,List.replicate n 0,⟨g3,k3.bk U (k2.bk U g1),k3.bk U g2,⟨rfl,.inl ⟨rfl,rfl,rfl⟩⟩,⟨U,U,U⟩,⟨.inr (.inr rfl),.inl rfl,.inr (.inl rfl)⟩,⟨U,U,U⟩,(λg hg=>hg.elim),by simp,hn,by simp,by simp,λc hc=>?_,by simp,λk hk=>.inr ⟨by simp,by simp[hk]⟩⟩,λj h1 h2=>by simp at h2,λk=>by simp,λb hb=>by rcases hb with hb | hb | hb <;>omega⟩ ((k1.trans k2).trans k3) (λb hb=>by rcases hb with hb | hb | hb <;>omega);have:=List.eq_of_mem_replicate hc;omega
theorem zw {q:Nat->Option Nat}{k:Nat}{c:Int}(H:bi h S hp N q) (hk:k<N) (hc0:0<=c) (hc1:c<=1152921504606846976)
  (hK:∀h' S',bi h' S' hp N (ik q k c.toNat)->Mt S h h'->(∀b,S' b->S b\/(h.next<=b/\b<h'.next))->Q (.bool (eX q k c.toNat)) h'):WC Tryz.prog 79 [μ (ω ⟨hp,0,ν⟩),ψ η k,ψ η c] h Q:=by
 obtain⟨row,costs,A,K,Bc,Bs,seats,H1,HR,HQ,HS⟩:=H;have hN:=H1.nN;have hf:=H1.few;have hcl:=H1.cl;have hsl:=H1.seat.1;obtain⟨x,hx,x0,hx0,hx1⟩:=H1.cost hk;obtain⟨s,hs,s0⟩:=H1.seatAt hk;have hxc:jX costs k=x:=by simp[jX,List.getD_eq_getElem?_getD,hx]
 refine mL (HF H1 hk ⟨_,rfl,λ_=>?_,λh=>Bool.noConfusion h⟩);refine xW c ⟨_,rfl,?_⟩;rw[cD hc0 hc1];refine⟨λh3=>∃(row1:List Nat) (A1:Option Addr) (K1:Nat) (seats1:List Int) (S1:Nat->Prop) (p:Nat),bB h3 S1 hp N row1 costs A1 K1 Bc Bs seats1/\row1[p]? = ω k/\seats1[k]? = ω ((p:Int)+1)/\CY (jX (costs.set k c)) (pN row1) row1.length p/\Mt S h h3/\(∀b,S1 b->S b\/(h.next<=b/\b<h3.next))/\
  (∀row2,(∀y,y∈row2↔y∈row1)->Bv row2 (costs.set k c) (ik q k c.toNat)/\eX q k c.toNat=true),?_,?_⟩
 .rintro h3 ⟨row1,A1,K1,seats1,S1,p,H3,hp1,hs1,hu,hmt,hS1,hQ⟩;obtain⟨h4,q1,q2,q3,q4⟩:=cP H3.bc (k:=k) U c;have n3:=H3.ne;have H4:bB h4 S1 hp N row1 (costs.set k c) A1 K1 Bc Bs seats1:=⟨(q4 hp n3.1).trans H3.blk,q2,(q4 Bs (Ne.symm n3.2.2)).trans H3.bs,H3.own.keep (λb hb _=>q4 b (H3.far b hb).2.2.1) U,⟨by have:=H3.lt3;omega,by have:=H3.lt3;omega,by have:=H3.lt3;omega⟩,H3.inS,H3.ne,H3.far,by rw[List.length_set];exact hcl,hN,H3.lt,H3.nodup,λy hy=>by
   rcases List.mem_or_eq_of_mem_set hy with hy | rfl
   .exact H3.cbd y hy
   .exact⟨hc0,hc1⟩,H3.seat⟩
  have hpl:=(List.getElem?_eq_some_iff.1 hp1).1;refine⟨_,_,rfl,_,_,_,H3.c1,_,rfl,_,_,rfl,hk,h4,q1,_,_,_,H4.c2,_,_,rfl,hk,_,jg H4.bs hs1,_,af (by have:=H3.few;omega) (by have:=H3.few;omega),?_⟩;rw[show((p:Int)+1 - 1)=(p:Int) by omega];refine IM H4 hpl hu λh5 row2 seats2 H5 l5 m5 r5 mt5 z5=>⟨rfl,?_⟩;obtain⟨g1,g2⟩:=hQ row2 m5;have hmt5:Mt S h h5:=(hmt.trans (S':=S1) ⟨U,λb _ hb=>q4 b (λe=>hb (e ▸ H3.inS.2.1))⟩ (λb hb hlt=>(hS1 b hb).elim id (λh=>U))).trans mt5 (λb hb hlt=>(hS1 b hb).elim id (λh=>U));have:=hK h5 S1 ⟨row2,costs.set k c,A1,K1,Bc,Bs,seats2,H5,r5,g1,λb hb=>by
   rcases hS1 b hb with h1 | h1
   .have:=HS b h1;have:=hmt5.next;omega
   .omega⟩ hmt5 (λb hb=>(hS1 b hb).imp id λh=>⟨h.1,U⟩)
  rwa [g2]at this
 .refine⟨_,_,rfl,_,_,_,H1.c2,_,rfl,_,_,rfl,hk,_,s0,λhz=>?_,λhz=>?_⟩
  ·
   have hnm:k ∉ row:=by
    rcases H1.seat.2 k hk with⟨p,hp1,hp2⟩ | ⟨hn,_⟩
    .rw[hs]at hp2;injection hp2 with hp2;omega
    .exact hn
   refine⟨_,_,_,H1.c0,λh6 e6=>?_⟩;obtain⟨k6,g6,z6⟩:=aj e6;have o6:cm h6 A row.length K (ei row):=H1.own.keep (λb _ hb=>k6.get b hb) k6.next;obtain⟨A9,K9,h7,a1,a2,a3,a4,a5⟩:=o6.app (B:=h.next) (L:=2) (x:=(k:Int)) (aa g6 rfl) U;have l3:=H1.lt3;have n3:=H1.ne;have far6:∀b,ah A b->b≠hp/\b≠Bc/\b≠Bs:=λb hb=>(H1.far b hb).2;have k7:∀b,b<h.next->¬ah A b->h7.get b=h.get b:=λb hb hne=>(a4 b U hne).trans (k6.get b hb);have blk7:Bk h7 hp [ξ A row.length K,ξ (ω ⟨Bc,0,ν⟩) N (cx N),ξ (ω ⟨Bs,0,ν⟩) N (cx N)] 284:=(k7 hp l3.1 (λhh=>(far6 _ hh).1 rfl)).trans H1.blk;have bc7:Bk h7 Bc (costs.map (Value.int .i64)) 2:=(k7 Bc l3.2.1 (λhh=>(far6 _ hh).2.1 rfl)).trans H1.bc;have bs7:Bk h7 Bs (seats.map (Value.int .i64)) 3:=(k7 Bs l3.2.2 (λhh=>(far6 _ hh).2.2 rfl)).trans H1.bs;have new9:∀b,ah A9 b->(S b\/(h.next<=b/\b<h7.next))/\b≠hp/\b≠Bc/\b≠Bs:=λb hb=>by
    rcases a5 b hb with h1 | h1
    .exact⟨.inl (H1.far b h1).1,far6 b h1⟩
    .exact⟨.inr ⟨U,h1.2⟩,U,U,U⟩
   obtain⟨h8,b1,b2,b3,b4⟩:=aD (v:=ξ A9 (row.length+1) K9) blk7 (o:=0) (by simp) rfl;have bs8:Bk h8 Bs (seats.map (Value.int .i64)) 3:=(b4 Bs (Ne.symm n3.2.1)).trans bs7;obtain⟨h9,c1,c2,c3,c4⟩:=cP bs8 (k:=k) U ((row.length+1:Nat):Int);have y2:ldC h8 hp 2=ω (ξ (ω ⟨Bs,0,ν⟩) N (cx N)):=aa b2 rfl;have y0:ldC h8 hp 0=ω (ξ A9 (row.length+1) K9):=aa b2 rfl;have hlen9:(row ++ [k]).length=row.length+1:=by simp
   refine⟨A9,row.length+1,K9,h7,a1,h8,b1,_,_,_,y2,_,_,_,y0,_,_,rfl,hk,h9,c1,row ++ [k],A9,K9,seats.set k ((row.length:Int)+1),λb=>S b\/(h.next<=b/\b<h7.next),row.length,⟨?_,?_,?_,?_,⟨U,U,U⟩,⟨.inl H1.inS.1,.inl H1.inS.2.1,.inl H1.inS.2.2⟩,n3,new9,hcl,hN,λy hy=>?_,?_,H1.cbd,zh H1.seat hk hnm⟩,by simp,by simp[hsl,hk],?_,?_,λb hb=>hb.imp id λh=>⟨h.1,U⟩,λrow2 hm2=>?_⟩
   .rw[hlen9];exact(c4 hp n3.2.1).trans b2
   .exact(c4 Bc n3.2.2).trans ((b4 Bc (Ne.symm n3.1)).trans bc7)
   .rw[show((row.length+1:Nat):Int)=(row.length:Int)+1 by omega]at c2;exact c2
   .rw[hlen9];have:ei (row ++ [k])=ei row ++ [(k:Int)]:=by simp[ei]
    rw[this];exact a2.keep (λb hb _=>(c4 b (new9 b hb).2.2.2).trans (b4 b (new9 b hb).2.1)) U
   .rcases List.mem_append.1 hy with hy | hy
    .exact H1.lt y hy
    .simp at hy;omega
   .refine List.nodup_append.2 ⟨H1.nodup,by simp,λy hy z hz=>?_⟩;simp at hz;subst hz;exact λe=>hnm (e ▸ hy)
   .rw[sN (by rw[hcl];exact hk),Bx,hlen9];exact(HR.other (k:=k) (v:=c) (λj hj he=>hnm (by
     have h7:row[j]? = ω row[j]:=List.getElem?_eq_getElem hj;rw[cN h7]at he;rw[<-he];exact List.getElem_mem hj))).put k
   .refine⟨by have:=k6.next;omega,λb hb hn=>?_⟩;have e1:b≠Bs:=λe=>hn (e ▸ H1.inS.2.2);have e2:b≠hp:=λe=>hn (e ▸ H1.inS.1);exact((c4 b e1).trans (b4 b e2)).trans (k7 b hb (λhh=>hn (H1.far b hh).1))
   .exact HQ.new (by rw[hcl];exact hk) hnm (λy=>by rw[hm2 y];simp)
  ·
   have hkr:∃p:Nat,row[p]? = ω k/\seats[k]? = ω ((p:Int)+1):=by
    rcases H1.seat.2 k hk with hh | ⟨_,hn⟩
    .exact hh
    .rw[hs]at hn;injection hn with hn;omega
   obtain⟨p,hp1,hp2⟩:=hkr;have hkm:k∈row:=List.mem_of_getElem? hp1;have hpl:=(List.getElem?_eq_some_iff.1 hp1).1;refine⟨_,_,_,H1.c1,_,_,rfl,hk,_,x0,λhle=>?_,λhgt=>?_⟩
   .obtain⟨g1,g2⟩:=HQ.same (c:=c) hkm (by rw[hxc];exact hx0) (by rw[hxc];exact hle);have:=hK h S ⟨row,costs,A,K,Bc,Bs,seats,H1,HR,g1,HS⟩ (Mt.refl _ _) (λb hb=>.inl hb)
    rwa [g2]at this
   .refine⟨row,A,K,seats,S,p,H1,hp1,hp2,?_,Mt.refl _ _,λb hb=>.inl hb,λrow2 hm2=>HQ.less (by rw[hcl];exact hk) hkm hm2 hc0 (by rw[hxc];omega)⟩;rw[sN (by rw[hcl];exact hk)];have hrk:=cN hp1;rw[<-hrk];refine HR.less hpl (by rw[hrk,hxc];omega) λj hj he=>?_;have h7:row[j]? = ω row[j]:=List.getElem?_eq_getElem hj;rw[cN h7,hrk]at he;rw[he]at h7;exact dO H1.nodup h7 hp1
theorem Fm {q:Nat->Option Nat}(H:bi h S hp N q) (hK0:(∀k,q k=ν)->Q (.tuple #[ψ η 0,ψ η 0,.bool false]) h)
  (hK:∀(k c:Nat) h',k<N->q k=ω c->(∀b c',q b=ω c'->c<=c')->bi h' S hp N (del q k)->Mt S h h'->h'.next=h.next->Q (.tuple #[ψ η k,ψ η c,.bool true]) h'):WC Tryz.prog 80 [μ (ω ⟨hp,0,ν⟩)] h Q:=by
 obtain⟨row,costs,A,K,Bc,Bs,seats,H1,HR,HQ,HS⟩:=H;have hN:=H1.nN;have hf:=H1.few;refine mM ⟨_,_,rfl,_,_,_,H1.c0,λh0=>hK0 λk=>?_,λh0=>?_⟩
 .have:row = []:=List.eq_nil_of_length_eq_zero U;rw[HQ k,this];rfl
 .obtain⟨m,hm⟩:∃m,row.length=m+1:=⟨row.length - 1,U⟩;obtain⟨k,hk⟩:∃k,row[0]? = ω k:=⟨_,List.getElem?_eq_getElem U⟩;obtain⟨b,hb⟩:∃b,row[m]? = ω b:=⟨_,List.getElem?_eq_getElem U⟩;obtain⟨g,rfl,hg,hil,e0⟩:=H1.own.read (dh hk);have hkN:=H1.lt k (List.mem_of_getElem? hk);have c0:=H1.c0;refine⟨_,_,_,c0,_,_,rfl,U,_,e0,_,_,_,c0,_,af U U,rfl,?_⟩;rw[show((row.length:Int) - 1)=(m:Int) by omega,show(0:Int)=((0:Nat):Int) from rfl];refine BP H1 hk hb λh1 H2 m1 z1=>⟨rfl,_,_,_,H2.c0,m,rfl,?_⟩;have hl1:(pM row 0 m).length=m+1:=by rw[jc];exact hm
  have l0:0<row.length:=U;have lm:m<row.length:=U;have hk1:(pM row 0 m)[m]? = ω k:=by
   rw[dA l0 lm];by_cases h:m=0
   .subst h;rw[if_pos rfl];exact hk
   .rw[if_neg h,if_pos rfl];exact hk
  obtain⟨o2,hsl⟩:=H2.own.cut (m:=m) U U;have n3:=H2.ne;have far2:=H2.far g rfl;obtain⟨h2,s2,b2,z2,k2⟩:=aD (v:=ξ (ω ⟨g,0,ν⟩) m K) H2.blk (o:=0) (by simp) rfl;have bs2:=(k2 Bs (Ne.symm n3.2.1)).trans H2.bs;have hsl2:=H2.seat.1;obtain⟨h3,s3,b3,z3,k3⟩:=cP bs2 (k:=k) U 0;have y2:ldC h2 hp 2=ω (ξ (ω ⟨Bs,0,ν⟩) N (cx N)):=aa b2 rfl;have l3:=H2.lt3;have hlt:((pM row 0 m).take m).length=m:=by simp[hl1]
  have H3:bB h3 S hp N ((pM row 0 m).take m) costs (ω ⟨g,0,ν⟩) K Bc Bs ((((seats.set b ((0:Int)+1)).set k ((m:Int)+1))).set k 0):=by
   refine⟨by rw[hlt];exact(k3 hp n3.2.1).trans b2,(k3 Bc n3.2.2).trans ((k2 Bc (Ne.symm n3.1)).trans H2.bc),b3,?_,⟨U,U,U⟩,H2.inS,n3,H2.far,H2.cl,hN,λy hy=>H2.lt y (List.mem_of_mem_take hy),H2.nodup.sublist (List.take_sublist _ _),H2.cbd,zi H2.seat H2.nodup hl1 hk1 hkN⟩;rw[hlt,<-wx];exact o2.keep (λc hc _=>by have:c=g:=hc;rw[this];exact(k3 g far2.2.2.2).trans (k2 g far2.2.1)) U
  have hdn:gi (jX costs) (pN ((pM row 0 m).take m)) ((pM row 0 m).take m).length 0:=by
   rw[hm]at HR;rw[hlt];refine HR.pop.congr λx hx=>?_;rw[<-wy l0 lm];unfold pN;rw[List.getD_eq_getElem?_getD,List.getD_eq_getElem?_getD,List.getElem?_take];simp[hx]
  have hmem2:∀x,x∈(pM row 0 m).take m↔x∈row/\x≠k:=λx=>by rw[Dr H2.nodup hl1 hk1,kK l0 lm]
  refine⟨_,_,_,hsl,h2,s2,_,_,_,y2,k,rfl,_,_,rfl,hkN,h3,s3,Gu H3 hdn λh4 row2 seats2 H4 l4 m4 r4 mt4 z4=>⟨rfl,_,_,_,H4.c1,_,_,rfl,hkN,?_⟩⟩;obtain⟨x,hx,x1,x2,x3⟩:=H4.cost hkN;have hxc:jX costs k=x:=by simp[jX,List.getD_eq_getElem?_getD,hx]
  have hkr:k∈row:=List.mem_of_getElem? hk;refine⟨x,x1,?_⟩;have hmt:Mt S h h4:=(m1.then ⟨U,λc _ hc=>(k3 c (λe=>hc (e ▸ H2.inS.2.2))).trans (k2 c (λe=>hc (e ▸ H2.inS.1)))⟩).then mt4;have:=hK k x.toNat h4 hkN (by rw[HQ k,if_pos hkr,hxc]) (λy c' hy=>?_) ⟨row2,costs,_,K,Bc,Bs,seats2,H4,r4,λy=>?_,λy hy=>?_⟩ hmt U
  .rwa [Int.toNat_of_nonneg x2]at this
  .rw[HQ y]at hy
   split at hy
   .rename_i hyr;injection hy with hy;obtain⟨j,hj⟩:=List.getElem?_of_mem hyr;have h8:=HR.top j (List.getElem?_eq_some_iff.1 hj).1;rw[cN hk,cN hj]at h8;unfold ja at h8;omega
   .cases hy
  .unfold del;by_cases hyk:y=k
   .rw[if_pos hyk,if_neg (λhh=>((hmem2 y).1 ((m4 y).1 hh)).2 hyk)]
   .rw[if_neg hyk,HQ y];by_cases hyr:y∈row
    .rw[if_pos hyr,if_pos ((m4 y).2 ((hmem2 y).2 ⟨hyr,hyk⟩))]
    .rw[if_neg hyr,if_neg (λhh=>hyr ((hmem2 y).1 ((m4 y).1 hh)).1)]
  .have:=HS y hy;omega
end
end Eva
end
section
open Go Go.RowKit
namespace Eva
section
variable {h h':AH}{S:Nat->Prop}{hp N:Nat}{Q:Value->AH->Prop}
theorem cm.cut0 {A:Option Addr}{n K:Nat}{xs:List Int}(o:cm h A n K xs):cm h A 0 K []/\aG Tryz.prog 3 A n K ν (ω 0) ν=ω (ξ A 0 K):=by
 rcases Nat.eq_zero_or_pos n with h0 | h0
 .subst h0;have hx:xs = []:=List.eq_nil_of_length_eq_zero o.1;subst hx;refine⟨o,?_⟩;rcases o.2 with⟨rfl,_,rfl⟩ | ⟨g,c,rest,rfl,h1,h2,h3,h4,h5⟩
  .obtain⟨i,hi,-⟩:=bo dC;unfold aG;rw[hi];rfl
  .have o1:cm h (ω ⟨g,0,ν⟩) 0 K ([]:List Int):=o;obtain⟨i,hi,hsz⟩:∃i,Tryz.prog.info? 3=ω i/\i.size=1:=by
    obtain⟨i,q1,q2,-⟩:=bo dC;exact⟨i,q1,q2⟩
   unfold aG;rw[hi];have hc2:K / 2=c:=by rw[h2];unfold cl;omega
   have hp:Nat.beq (K % 2) 0=false:=by
    have:K % 2=1:=by rw[h2];unfold cl;omega
    rw[this];rfl
   have hb1:Nat.ble 0 (K / 2)=true:=Nat.ble_eq_true_of_le (Nat.zero_le _);have hlt:Nat.blt 0 (K / 2)=true:=Nat.ble_eq_true_of_le U;show cond (Option.isNone (none:Option Nat) || Option.isSome (ω 0)) (cT i.size (ω ⟨g,0,ν⟩) 0 K ((none:Option Nat).getD 0) (ω 0) ν) ν=_;simp only[Option.isNone_none,Bool.true_or,cond_true,Option.getD_none];unfold cT;have hb0:Nat.ble 0 0=true:=rfl;simp only[Option.getD_some,hb1,hb0,Bool.and_self,cond_true,hp,cond_false];unfold nI;rw[hlt];simp only[cond_true,Nat.sub_zero,Nat.zero_mul,Option.map_some];rw[hc2,h2];rfl
 .have:=o.cut (m:=0) (Nat.zero_le _) h0;simpa using this
theorem BQ {q:Nat->Option Nat}(H:bi h S hp N q) (hK:∀h',bi h' S hp N (λ_=>ν)->Mt S h h'->h'.next=h.next->Q (.tuple #[]) h'):WC Tryz.prog 168 [μ (ω ⟨hp,0,ν⟩)] h Q:=by
 obtain⟨row,costs,A,K,Bc,Bs,seats,H1,HR,HQ,HS⟩:=H;have hN:=H1.nN;have hf:=H1.few;have n3:=H1.ne;refine ky ⟨_,_,rfl,_,_,_,H1.c0,λm x h1=>∃(i:Nat) (seats':List Int),x=i/\m=row.length - i/\i<=row.length/\seats'.length=N/\(∀k,k<N->seats'[k]? = if k∈row.take i then ω 0 else seats[k]?)/\Bk h1 Bs (seats'.map (Value.int .i64)) 3/\h1.next=h.next/\(∀b,b≠Bs->h1.get b=h.get b),row.length,⟨0,seats,rfl,rfl,Nat.zero_le _,H1.seat.1,λk _=>by simp,H1.bs,rfl,λ_ _=>rfl⟩,?_⟩;rintro m x h1 ⟨i,seats',rfl,hm,hi,hl,hs,hb,hz,ho⟩;subst m;have y0:ldC h1 hp 0=ω (ξ A row.length K):=(be (ho hp n3.2.1) _).trans H1.c0;have y2:ldC h1 hp 2=ω (ξ (ω ⟨Bs,0,ν⟩) N (cx N)):=(be (ho hp n3.2.1) _).trans H1.c2;have own1:cm h1 A row.length K (ei row):=H1.own.keep (λb hb _=>ho b (H1.far b hb).2.2.2) U;refine⟨λhlt=>?_,λhge=>?_⟩
 .obtain⟨k,hk⟩:∃k,row[i]? = ω k:=⟨_,List.getElem?_eq_getElem U⟩;obtain⟨g,rfl,hg,hil,e0⟩:=own1.read (dh hk);have hkN:=H1.lt k (List.mem_of_getElem? hk);obtain⟨h2,q1,q2,q3,q4⟩:=cP hb (k:=k) U 0;refine⟨i,rfl,_,_,rfl,hil,_,e0,_,_,_,y2,k,rfl,_,_,rfl,hkN,h2,q1,_,af U U,row.length - (i+1),U,i+1,_,U,rfl,U,by rw[List.length_set];exact hl,λy hy=>?_,q2,U,λb hb=>(q4 b hb).trans (ho b hb)⟩;rw[List.getElem?_set,List.take_add_one,hk];by_cases e:k=y
  .subst e;simp[hl,hkN]
  .rw[if_neg e,hs y hy];have:y∈row.take i ++ (ω k).toList↔y∈row.take i:=by simp;intro h;exact absurd h.symm e
   by_cases hm:y∈row.take i
   .rw[if_pos hm,if_pos (this.2 hm)]
   .rw[if_neg hm,if_neg (λh=>hm (this.1 h))]
 .have hie:i=row.length:=U;subst hie;obtain⟨o2,hsl⟩:=own1.cut0;have b1:Bk h1 hp [ξ A row.length K,ξ (ω ⟨Bc,0,ν⟩) N (cx N),ξ (ω ⟨Bs,0,ν⟩) N (cx N)] 284:=(ho hp n3.2.1).trans H1.blk;obtain⟨h2,s2,b2,z2,k2⟩:=aD (v:=ξ A 0 K) b1 (o:=0) (by simp) rfl;refine⟨_,_,_,y0,_,_,_,hsl,h2,s2,hK h2 ⟨[],costs,A,K,Bc,Bs,seats',⟨b2,(k2 Bc (Ne.symm n3.1)).trans ((ho Bc n3.2.2).trans H1.bc),(k2 Bs (Ne.symm n3.2.1)).trans hb,o2.keep (λb hb _=>k2 b (H1.far b hb).2.1) U,⟨by have:=H1.lt3;omega,by have:=H1.lt3;omega,by have:=H1.lt3;omega⟩,H1.inS,n3,H1.far,H1.cl,hN,by simp,by simp,H1.cbd,hl,λk hk=>.inr ⟨by simp,?_⟩⟩,λj h1 h2=>by simp at h2,λk=>by simp,λb hb=>by rw[z2,hz];exact HS b hb⟩ ⟨U,λb _ hn=>(k2 b (λe=>hn (e ▸ H1.inS.1))).trans (ho b (λe=>hn (e ▸ H1.inS.2.2)))⟩ U⟩;rw[hs k hk,List.take_of_length_le (Nat.le_refl _)];by_cases hm:k∈row
  .rw[if_pos hm]
  .rw[if_neg hm];rcases H1.seat.2 k hk with⟨p,h1,-⟩ | ⟨-,h1⟩
   .exact absurd (List.mem_of_getElem? h1) hm
   .exact h1
end
end Eva
end
section
open Go Go.RowKit
def cQ (zs:List Int):Nat->List Int
 | 0=>[]
 | k+1=>if 0<k/\zs[k]? = zs[k - 1]? then cQ zs k else cQ zs k ++ (zs[k]?).toList
theorem kW {zs:List Int}{x:Int}:∀k,x∈cQ zs k↔x∈zs.take k
 | 0=>by simp[cQ]
 | k+1=>by
  unfold cQ;rw[List.take_add_one,List.mem_append]
  split
  .rename_i h;rw[kW k];constructor
   .exact .inl
   .rintro(h1 | h1)
    .exact h1
    .rw[h.2]at h1;have h2:zs[k - 1]? = ω x:=by simpa using h1
     refine List.mem_of_getElem? (i:=k - 1) ?_;rw[List.getElem?_take,if_pos U];exact h2
  .rw[List.mem_append,kW k]
theorem jZ {zs:List Int}(hs:zs.Pairwise (·<=·)){i j:Nat}{x y:Int}(hi:zs[i]? = ω x) (hj:zs[j]? = ω y) (hij:i<=j):x<=y:=by
 rcases Nat.eq_or_lt_of_le hij with rfl | h
 .rw[hi]at hj;injection hj with hj;omega
 .obtain⟨hil,rfl⟩:=List.getElem?_eq_some_iff.1 hi;obtain⟨hjl,rfl⟩:=List.getElem?_eq_some_iff.1 hj;exact List.pairwise_iff_getElem.1 hs i j hil hjl h
theorem kX {zs:List Int}(hs:zs.Pairwise (·<=·)):∀k,(cQ zs k).Pairwise (· < ·)
 | 0=>by simp[cQ]
 | k+1=>by
  unfold cQ
  split
  .exact kX hs k
  .rename_i h;cases hk:zs[k]? with
   | none=>simpa using kX hs k
   | some x=>
    refine List.pairwise_append.2 ⟨kX hs k,by simp,λy hy z hz=>?_⟩;have hzx:z=x:=by simpa using hz
    subst hzx;obtain⟨i,hi⟩:=List.getElem?_of_mem ((kW k).1 hy);rw[List.getElem?_take]at hi
    split at hi
    .rename_i hik;have h1:y<=z:=jZ hs hi hk U;rcases Int.lt_or_eq_of_le h1 with h2 | h2
     .exact h2
     .exfalso;have hkl:=(List.getElem?_eq_some_iff.1 hk).1;obtain⟨u,hu⟩:∃u,zs[k - 1]? = ω u:=⟨_,List.getElem?_eq_getElem U⟩;have h3:=jZ hs hi hu U;have h4:=jZ hs hu hk U;exact h ⟨U,by rw[hk,hu];congr 1;omega⟩
    .cases hi
def j0 (low row:List Int) (c:Int):Nat->List Int
 | 0=>[]
 | k+1=>if row[k]? = ω c then j0 low row c k ++ (low[k]?).toList else j0 low row c k
theorem kY {low row:List Int}{c x:Int}:∀k,x∈j0 low row c k↔∃v,v<k/\row[v]? = ω c/\low[v]? = ω x
 | 0=>by simp[j0]
 | k+1=>by
  unfold j0
  split
  .rename_i h;rw[List.mem_append,kY k,Option.mem_toList];constructor
   .rintro(⟨v,h1,h2,h3⟩ | h1)
    .exact⟨v,U,h2,h3⟩
    .exact⟨k,U,h,by simpa using h1⟩
   .rintro⟨v,h1,h2,h3⟩;by_cases e:v=k
    .subst e;exact .inr (by simpa using h3)
    .exact .inl ⟨v,U,h2,h3⟩
  .rename_i h;rw[kY k];constructor
   .rintro⟨v,h1,h2,h3⟩;exact⟨v,U,h2,h3⟩
   .rintro⟨v,h1,h2,h3⟩;by_cases e:v=k
    .subst e;exact absurd h2 h
    .exact⟨v,U,h2,h3⟩
theorem uJ (low row:List Int) (c:Int):∀k,(j0 low row c k).length<=k
 | 0=>by simp[j0]
 | k+1=>by
  unfold j0;have:=uJ low row c k
  split
  .rw[List.length_append];have:(low[k]?).toList.length<=1:=by cases low[k]? <;>simp
   omega
  .omega
theorem zx {l:List Int}(h:∀x∈l,0<=x):ints (l.map Int.toNat)=l:=by
 unfold ints;rw[List.map_map]
 conv=>rhs;rw[<-List.map_id l]
 refine List.map_congr_left λx hx=>?_;have:=h x hx;show((x.toNat:Nat):Int)=x;omega
theorem bS {p:List (List Int)}{k v:Nat}{row:List Int}{x:Int}(hr:p[k - 1]? = ω row) (hx:row[v]? = ω x):ap p k v=x.toNat:=by
 unfold ap;rw[hr];simp[hx]
namespace Eva
section
variable {h h':AH}{Q:Value->AH->Prop}{F:Nat->Prop}{A:Option Addr}{n K:Nat}{zs:List Int}{p:List (List Int)}
theorem pq:∀(l:List Int),iD (l.map (Value.int .i64))=ω l
 | []=>rfl
 | x :: l=>by
  show(iD (l.map (Value.int .i64))).map (x :: ·)=_;rw[pq l];rfl
theorem Gv (o:cm h A n K zs) (hn:0<n) (hnb:n<=1000000) (hK:∀h',cm h' A n K (zs.mergeSort λx y=>decide (x<=y))->Mt (ah A) h h'->h'.next=h.next->Q (.tuple #[]) h'):WC Tryz.prog 325 [ξ A n K] h Q:=by
 obtain⟨hl,o⟩:=o;rcases o with⟨_,h1,_⟩ | ⟨g,c,rest,rfl,h1,h2,h3,h4,h5⟩
 .omega
 .have hs:orc 325 [ξ (ω ⟨g,0,ν⟩) n K] h=ω (.tuple #[],h.put g (.cells ((zs.mergeSort λx y=>decide (x<=y)).map (Value.int .i64) ++ rest) 3 false)):=by
   unfold orc;rw[Nat.beq_refl];simp only[cond_true];unfold xw;simp only[h5];have e1:((zs.map (Value.int .i64) ++ rest).drop 0).take n=zs.map (Value.int .i64):=by
    rw[List.drop_zero,List.take_append_of_le_length (by simp;omega),List.take_of_length_le (by simp;omega)]
   rw[e1,pq];have e3:(zs.map (Value.int .i64) ++ rest).drop (0+n)=rest:=by
    rw[show 0+n=(zs.map (Value.int .i64)).length by simp;omega,List.drop_left]
   unfold vP;have b1:Nat.ble (0+n) (zs.map (Value.int .i64) ++ rest).length=true:=Nat.ble_eq_true_of_le (by simp;omega);have b2:Nat.ble n (K / 2)=true:=Nat.ble_eq_true_of_le (by rw[h2];unfold cl;omega);have b3:Nat.ble n 1000000=true:=Nat.ble_eq_true_of_le hnb;simp only[b1,b2,b3,Bool.and_self,cond_true,List.take_zero,List.nil_append,e3]
  refine⟨0,_,_,by unfold aQ;rw[hs],hK (h.put g (.cells ((zs.mergeSort λx y=>decide (x<=y)).map (Value.int .i64) ++ rest) 3 false)) ⟨by rw[List.length_mergeSort];exact hl,.inr ⟨g,c,rest,rfl,h1,h2,h3,h4,?_⟩⟩ ⟨Nat.le_refl _,λb hb hn=>by rw[get_put,if_neg (λe:b=g=>hn e)]⟩ rfl⟩;show(h.put g _).get g=_;rw[get_put,if_pos rfl]
theorem sW {g k c:Nat}(hk:k<=n) (hn:n<=c) (hkc:k<c):aG Tryz.prog 3 (ω ⟨g,0,ν⟩) n (cl c) (ω k) ν ν=ω (ξ (ω ⟨g,k,ν⟩) (n - k) (cl (c - k))):=by
 obtain⟨i,hi,hsz,-⟩:=bo dC;unfold aG;rw[hi];have hc2:(cl c) / 2=c:=by unfold cl;omega
 have hp:Nat.beq ((cl c) % 2) 0=false:=by
  have:(cl c) % 2=1:=by unfold cl;omega
  rw[this];rfl
 have b1:Nat.ble n ((cl c) / 2)=true:=Nat.ble_eq_true_of_le U;have b2:Nat.ble k n=true:=Nat.ble_eq_true_of_le hk;have b3:Nat.blt k c=true:=Nat.ble_eq_true_of_le hkc;show cond (Option.isNone (none:Option Nat) || Option.isSome (none:Option Nat)) (cT i.size (ω ⟨g,0,ν⟩) n (cl c) ((ω k).getD 0) ν ν) ν=_;simp only[Option.isNone_none,Bool.true_or,cond_true,Option.getD_some];unfold cT;simp only[Option.getD_none,b1,b2,Bool.and_self,cond_true,hp,cond_false];unfold nI;rw[hc2,b3,hsz,Nat.mul_one];simp only[cond_true,Option.map_some];rw[bp,Nat.zero_add]
theorem wG {g o m:Nat}{cells:List Value}{L:Nat}(hb:Bk h g cells 3) (ho:o+m<=cells.length) :
  ∃h',ir Tryz.prog h (ω (.slice 3)) (ξ (ω ⟨g,o,ν⟩) m L)=ω (.tuple #[],h')/\Bk h' g (cells.take o ++ List.replicate m (ψ η 0) ++ cells.drop (o+m)) 3/\h'.next=h.next/\∀b,b≠g->h'.get b=h.get b:=by
 have hz:∃i,Tryz.prog.info? 3=ω i/\i.zero=ω (ψ η 0)/\i.size=1:=by
  obtain⟨i,hi,hs,-⟩:=bo dC;refine⟨i,hi,?_,hs⟩;have:(match Tryz.prog.info? 3 with | some i=>i.zero | none=>ν)=ω (ψ η 0):=by kernel_rfl
  rw[hi]at this;exact this
 obtain⟨i,hi,hz,hs⟩:=hz;unfold ir;simp only[hi,hz,hs];have zo:fF (Value.int .i64 0) 1=true:=by kernel_rfl
 rw[zo];simp only[cond_true];rcases Nat.eq_zero_or_pos m with h0 | h0
 .subst h0;refine⟨h,rfl,?_,rfl,λ_ _=>rfl⟩;simpa using hb
 .have hb0:Nat.beq m 0=false:=by
   cases hb0:Nat.beq m 0 with
   | false=>rfl
   | true=>have:=av hb0;omega
  rw[hb0];simp only[cond_false];have e1:dJ m ((Value.int .i64 0).cells.toList)=List.replicate m (Value.int .i64 0):=a9 _ _;rw[e1];have:=Fc (h:=h) (b:=g) (o:=o) (vs:=List.replicate m (Value.int .i64 0)) hb (by simpa using ho) (λv hv=>by rw[List.eq_of_mem_replicate hv];rfl);unfold iE at this;rw[this];refine⟨_,rfl,?_,rfl,λb hb=>by rw[get_put,if_neg hb]⟩;show(h.put g _).get g=_;rw[get_put,if_pos rfl];simp
theorem BR (o:cm h A n K zs) (hn:n<=100000) (hK:∀m h',cm h' A m K (cQ zs zs.length)->Mt (ah A) h h'->h'.next=h.next->Q (ξ A m K) h'):WC Tryz.prog 326 [ξ A n K] h Q:=by
 have hl:=o.1;have done:cQ zs n=zs->Q (ξ A n K) h:=λhd=>hK n h (by rw[hl,hd];exact o) (Mt.refl _ _) rfl;have d1:∀k,0<k->k<n->cQ zs k=zs.take k->¬zs[k]? = zs[k - 1]?->cQ zs (k+1)=zs.take (k+1):=λk h0 hk hd hne=>by
  unfold cQ;rw[if_neg (λh=>hne h.2),hd,List.take_add_one]
 have d0:cQ zs 1=zs.take 1:=by
  unfold cQ;rw[if_neg (λh=>absurd h.1 (Nat.lt_irrefl _))];simp[cQ,List.take_add_one]
 refine fO ⟨λhlt=>?_,λhge=>?_⟩
 .refine done ?_;rcases Nat.eq_zero_or_pos n with h0 | h0
  .rw[h0];have:zs = []:=List.eq_nil_of_length_eq_zero U;rw[this];rfl
  .have:n=1:=U;rw[this,d0,List.take_of_length_le U]
 refine⟨λm x h1=>∃k:Nat,x=k/\0<k/\k<=n/\m=n - k/\cQ zs k=zs.take k/\h1=h,n - 1,⟨1,rfl,U,U,rfl,d0,rfl⟩,?_⟩;rintro m x h1 ⟨k,rfl,hk0,hk,rfl,hd,rfl⟩;refine⟨λhlt=>?_,λhge2=>?_⟩
 rotate_left
 .refine done ?_;have:k=n:=U;rw[<-this,hd,List.take_of_length_le U]
 have hkn:k<n:=U;obtain⟨g,c,rest,rfl,g1,g2,g3,g4,g5⟩:∃g c rest,A=ω ⟨g,0,ν⟩/\g<h1.next/\K=cl c/\0<c/\rest.length+n=c/\Bk h1 g (zs.map (Value.int .i64) ++ rest) 3:=by
  rcases o.2 with⟨_,h1,_⟩ | h1
  .omega
  .exact h1
 have rd:∀{ws:List Int}{h2:AH}{j:Nat}{y:Int},Bk h2 g (ws.map (Value.int .i64) ++ rest) 3->ws[j]? = ω y->ldC h2 g (0+j)=ω (ψ η y):=fun {ws h2 j y} hb hy=>by
  have:=(List.getElem?_eq_some_iff.1 hy).1;rw[aT hb,Nat.zero_add,List.getElem?_append_left (by simpa using this)];simp[hy]
 obtain⟨y,hy⟩:∃y,zs[k]? = ω y:=⟨_,List.getElem?_eq_getElem U⟩;obtain⟨z,hz⟩:∃z,zs[k - 1]? = ω z:=⟨_,List.getElem?_eq_getElem U⟩;have wk:IntKind.i64.wrap ((k:Int) - 1)=((k - 1:Nat):Int):=by rw[Int.natCast_sub hk0];exact af U U
 have wk1:IntKind.i64.wrap ((k:Int)+1)=((k+1:Nat):Int):=by rw[Int.natCast_succ];exact af U U
 refine⟨k,rfl,g,0,rfl,hkn,_,rd g5 hy,_,wk,k - 1,rfl,U,_,rd g5 hz,λhe=>?_,λhe=>?_⟩
 rotate_left
 .exact⟨_,wk1,n - (k+1),U,k+1,rfl,U,hkn,rfl,d1 k hk0 hkn hd (by rw[hy,hz];intro e;injection e with e;exact he e),rfl⟩
 rw[g2];refine⟨_,_,_,sW U U U,λm i x h2=>∃(q j:Nat) (ws:List Int),x=j/\i=q/\0<j/\j<=n - k/\m=n - k - j/\ws.length=n/\ws.take q=cQ zs (k+j)/\q=(cQ zs (k+j)).length/\q<=k+j - 1/\(∀r,k+j - 1<=r->ws[r]? = zs[r]?)/\Bk h2 g (ws.map (Value.int .i64) ++ rest) 3/\h2.next=h1.next/\∀b,b≠g->h2.get b=h1.get b,n - k - 1,⟨k,1,zs,rfl,rfl,U,U,rfl,hl,?_,?_,U,λ_ _=>rfl,g5,rfl,λ_ _=>rfl⟩,?_⟩
 .rw[cQ,if_pos ⟨hk0,by rw[hy,hz,he]⟩,hd]
 .rw[cQ,if_pos ⟨hk0,by rw[hy,hz,he]⟩,hd,List.length_take];omega
 rintro m i x h2 ⟨q,j,ws,rfl,rfl,hj0,hj,rfl,hwl,hwt,hq,hql,hwr,b2,z2,o2⟩;refine⟨λhlt=>?_,λhge=>?_⟩
 .have hjl:j<n - k:=U;have wj:IntKind.i64.wrap ((j:Int) - 1)=((j - 1:Nat):Int):=by rw[Int.natCast_sub hj0];exact af U U
  have wj1:IntKind.i64.wrap ((j:Int)+1)=((j+1:Nat):Int):=by rw[Int.natCast_succ];exact af U U
  have wq1:IntKind.i64.wrap ((q:Int)+1)=((q+1:Nat):Int):=by rw[Int.natCast_succ];exact af U U
  obtain⟨u,hu⟩:∃u,zs[k+j]? = ω u:=⟨_,List.getElem?_eq_getElem U⟩;obtain⟨v,hv⟩:∃v,zs[k+j - 1]? = ω v:=⟨_,List.getElem?_eq_getElem U⟩;have ru:ldC h2 g (k+j)=ω (ψ η u):=by have:=rd b2 ((hwr (k+j) U).trans hu);rwa [Nat.zero_add]at this
  have rv:ldC h2 g (k+(j - 1))=ω (ψ η v):=by have:=rd b2 ((hwr (k+j - 1) U).trans hv);rwa [Nat.zero_add,show k+j - 1=k+(j - 1) by omega]at this
  refine⟨j,rfl,g,k,rfl,hjl,_,ru,_,wj,j - 1,rfl,U,_,rv,λhe=>?_,λhe=>⟨hjl,_,ru,q,rfl,U,?_⟩⟩
  .have e1:cQ zs (k+(j+1))=cQ zs (k+j):=by
    show cQ zs (k+j+1)=_;rw[cQ,if_pos ⟨U,by rw[hu,hv,he]⟩]
   exact⟨_,wj1,n - k - (j+1),U,q,j+1,ws,rfl,rfl,U,U,rfl,hwl,by rw[e1];exact hwt,by rw[e1];exact hq,U,λr hr=>hwr r U,b2,z2,o2⟩
  .obtain⟨h3,s3,b3,z3,o3⟩:=aD (v:=ψ η u) b2 (o:=0+q) (by simp;omega) rfl;rw[Nat.zero_add,List.set_append_left _ _ (by simp;omega),<-List.map_set]at b3;have e1:cQ zs (k+(j+1))=cQ zs (k+j) ++ [u]:=by
    show cQ zs (k+j+1)=_;rw[cQ,if_neg (λh=>he (by have:=h.2;rw[hu,hv]at this;injection this)),hu];rfl
   refine⟨h3,s3,_,wq1,_,wj1,n - k - (j+1),U,q+1,j+1,ws.set q u,rfl,rfl,U,U,rfl,by simp[hwl],?_,by rw[e1,List.length_append,<-hq];rfl,U,λr hr=>?_,b3,U,λb hb=>(o3 b hb).trans (o2 b hb)⟩
   .rw[e1,<-hwt,List.take_add_one,List.getElem?_set_self U,List.take_set_of_le (Nat.le_refl _)];rfl
   .rw[List.getElem?_set_ne U];exact hwr r U
 .obtain rfl:j=n - k:=U;rw[show k+(n - k)=n by omega]at hwt hq hql hwr;obtain⟨h4,s4,b4,z4,o4⟩:=wG (o:=q) (m:=n - q) (L:=cl (c - q)) b2 (by simp;omega);have hcut:aG Tryz.prog 3 (ω ⟨g,0,ν⟩) n (cl c) ν (ω q) ν=ω (ξ (ω ⟨g,0,ν⟩) q (cl c)):=by
   have oR:cm h1 (ω ⟨g,0,ν⟩) n K zs:=o;have:=(oR.cut (m:=q) U U).2
   rwa [g2]at this
  refine⟨q,rfl,_,_,_,sW U U U,h4,s4,_,_,_,hcut,?_⟩;have:=hK q h4 ⟨by rw[hl];exact hq.symm,.inr ⟨g,c,List.replicate (n - q) (ψ η 0) ++ rest,rfl,U,g2,g3,by simp;omega,?_⟩⟩ ⟨U,λb hb hne=>(o4 b (λe=>hne e)).trans (o2 b (λe=>hne e))⟩ U
  .rwa [g2]at this
  .have e2:(ws.map (Value.int .i64) ++ rest).take q=(cQ zs zs.length).map (Value.int .i64):=by
    rw[List.take_append_of_le_length (by simp;omega),<-List.map_take,hwt,hl]
   have e3:(ws.map (Value.int .i64) ++ rest).drop (q+(n - q))=rest:=by
    rw[show q+(n - q)=(ws.map (Value.int .i64)).length by simp;omega,List.drop_left]
   rw[e2,e3,List.append_assoc]at b4;exact b4
end
end Eva
end
section
open Go Go.RowKit
namespace Eva
section
variable {h h':AH}{Q:Value->AH->Prop}{F:Nat->Prop}{A:Option Addr}{n K nv:Nat}{p:List (List Int)}
theorem eo {b o:Nat}{u:Value}(h0:ldC h b o=ω u):au h b o 1=ω [u]:=
 jY rfl U λj x hj=>by
  match j,hj with
  | 0,hj=>injection hj with hj;subst hj;exact h0
theorem pt (hs:Sa bh F h A n K p) (hn:n<=1000){k:Nat}(h1:1<=k) (h2:k<=n) (hK:∀A' n' K' row h',p[k - 1]? = ω row->Sa cI F h' A' n' K' row->Nw h h'->Q (ξ A' n' K') h'):WC Tryz.prog 322 [.agg #[ξ A n K],ψ η k] h Q:=by
 refine oT λh1' e1=>?_;obtain⟨k1,g1,z1⟩:=aj e1;obtain⟨b,o,A',n',K',row,rfl,hF,hb,hr,e0,s0⟩:=(hs.nw k1).row (k:=k - 1) U;exact⟨λh=>absurd h U,λ_=>⟨_,_,_,aa g1 rfl,λh=>absurd h U,λ_=>⟨_,_,_,aa g1 rfl,_,af U U,k - 1,U,_,_,rfl,U,_,_,_,e0,hK _ _ _ _ _ hr s0 k1⟩⟩⟩
theorem gu {k:Nat}{row:List Int}(hr:p[k - 1]? = ω row):(aq p k:Int)=aO row:=by
 unfold aq;rw[hr];have:=cW row;simp only[Option.getD_some];omega
theorem cF (hp:aB nv p){k:Nat}{row:List Int}(hr:p[k - 1]? = ω row):row.length=nv/\∀v,v<nv->∃x,row[v]? = ω x/\0<=x/\x<nv:=by
 have hm:=List.mem_of_getElem? hr;have hl:=hp.rows _ hm;refine⟨hl,λv hv=>⟨row[v]' U,List.getElem?_eq_getElem U,?_⟩⟩;exact hp.inr _ hm _ (List.getElem_mem _)
theorem Fq (hp:aB nv p) (hs:Sa bh F h A n K p){k:Nat}(h1:1<=k) (h2:k<=n) (hK:∀h',Nw h h'->Q (ψ η (aq p k:Int)) h'):WC Tryz.prog 282 [.agg #[ξ A n K],ψ η k] h Q:=by
 have hn:n<=6:=by rw[<-hs.len];exact hp.few
 have hnv:=hp.nv_;refine sm λh1' e1=>?_;obtain⟨k1,g1,z1⟩:=aj e1;refine⟨_,_,_,eo (aa g1 rfl),pt (hs.nw k1) U h1 h2 λA' n' K' row h2' hr s2 k2=>⟨_,_,_,rfl,?_⟩⟩;obtain⟨hl,hx⟩:=cF hp hr;have hn':n' = nv:=by rw[<-s2.len];exact hl
 subst hn';refine⟨λm acc x h3=>∃i:Nat,x=i/\i<=n'/\m=n' - i/\acc=aO (row.take i)/\h3=h2',n',⟨0,rfl,Nat.zero_le _,rfl,rfl,rfl⟩,?_⟩;rintro m acc x h3 ⟨i,rfl,hi,rfl,rfl,rfl⟩;refine⟨λhlt=>?_,λhge=>?_⟩
 .obtain⟨b,o,y,rfl,-,-,hy,e0⟩:=s2.int (k:=i) U;obtain⟨y',hy',y0,y1⟩:=hx i U;rw[hy]at hy';injection hy' with hy';subst hy';have w1:IntKind.i64.wrap ((i:Int)+1)=((i+1:Nat):Int):=by rw[Int.natCast_succ];exact af U U
  refine⟨i,rfl,_,_,rfl,U,_,e0,λhc=>⟨_,af U U,_,w1,n' - (i+1),U,i+1,rfl,U,rfl,?_,rfl⟩,λhc=>⟨_,w1,n' - (i+1),U,i+1,rfl,U,rfl,?_,rfl⟩⟩
  .rw[ee hy];omega
  .rw[ee hy];omega
 .have hin:row.take i=row:=List.take_of_length_le U;rw[hin,<-gu hr];exact hK _ (k1.trans k2)
theorem zy (hp:aB nv p){k c:Nat}{row:List Int}(hr:p[k - 1]? = ω row) (hc:c<aq p k):∃v,v<nv/\row[v]? = ω (c:Int):=by
 have hm:=List.mem_of_getElem? hr;have h1:=gu hr;obtain⟨v,hv⟩:=List.getElem?_of_mem (hp.full _ hm (c:Int) U U);exact⟨v,by rw[<-(cF hp hr).1];exact(List.getElem?_eq_some_iff.1 hv).1,hv⟩
theorem Gw {N:ab}(hp:aB N.nv p) (hs:Sa bh F h A n K p){k c:Nat}(h1:2<=k) (h2:k<=n) (hc:c<aq p k)
  (hK:∀A' n' K' ks h',Sa cI (λb=>h.next<=b) h' A' n' K' (ints ks)->fR N p k c ks->Nw h h'->Q (ξ A' n' K') h'):WC Tryz.prog 286 [.agg #[ξ A n K],ψ η k,ψ η c] h Q:=by
 have hn:n<=6:=by rw[<-hs.len];exact hp.few
 have hnv:=hp.nv_;refine ud λh1' e1=>?_;obtain⟨k1,g1,z1⟩:=aj e1;have wk:IntKind.i64.wrap ((k:Int) - 1)=((k - 1:Nat):Int):=by rw[Int.natCast_sub U];exact af U U
 refine⟨λh=>absurd h U,λ_=>⟨_,_,_,eo (aa g1 rfl),_,wk,pt (hs.nw k1) U U U λA3 n3 K3 low h2' hlo s3 k2=>⟨_,_,_,rfl,_,_,_,eo (aa (k2.bk U g1) rfl),pt (hs.nw (k1.trans k2)) U U h2 λA5 n5 K5 row h3' hro s5 k3=>⟨_,_,_,rfl,?_⟩⟩⟩⟩;obtain⟨hl,hx⟩:=cF hp hro;obtain⟨hl3,hx3⟩:=cF hp hlo;have hn5:n5=N.nv:=by rw[<-s5.len];exact hl
 have hn3:n3=N.nv:=by rw[<-s3.len];exact hl3
 subst hn5;have k03:=(k1.trans k2).trans k3;refine⟨λm A6 n6 K6 x h4=>∃i:Nat,x=i/\i<=N.nv/\m=N.nv - i/\cm h4 A6 n6 K6 (j0 low row c i)/\(∀b,ah A6 b->h3'.next<=b)/\Nw h3' h4,N.nv,⟨0,rfl,Nat.zero_le _,rfl,⟨rfl,.inl ⟨rfl,rfl,rfl⟩⟩,λb hb=>hb.elim,Nw.refl _⟩,?_⟩;rintro m A6 n6 K6 x h4 ⟨i,rfl,hi,rfl,o4,lo4,k4⟩;have hn6:n6<=N.nv:=by have:=o4.1;have:=uJ low row c i;omega
 refine⟨λhlt=>?_,λhge=>?_⟩
 .have w1:IntKind.i64.wrap ((i:Int)+1)=((i+1:Nat):Int):=by rw[Int.natCast_succ];exact af U U
  obtain⟨b,o,y,hA5,-,-,hy,e0⟩:=(s5.nw k4).int (k:=i) U;obtain⟨b3,o3,y3,hA3,-,-,hy3,e3⟩:=(s3.nw (k3.trans k4)).int (k:=i) U;refine⟨i,rfl,b,o,hA5,U,_,e0,λhc=>⟨λ_=>⟨b3,o3,hA3,U,_,e3,λh5 e5=>?_⟩,λh=>absurd h U⟩,λhne=>⟨_,w1,N.nv - (i+1),U,i+1,rfl,U,rfl,?_,lo4,k4⟩⟩
  .obtain⟨k5,g5,z5⟩:=aj e5;obtain⟨A7,K7,h6,y1,y2,y3',y4,y5⟩:=(o4.keep (λb _ hb=>k5.get b hb) k5.next).app (L:=2) (aa g5 rfl) U;have hk6:Nw h3' h6:=⟨by have:=k4.next;omega,λb hb=>(y4 b (by have:=k4.next;omega) (λho=>by have:=lo4 b ho;omega)).trans ((k5.get b (by have:=k4.next;omega)).trans (k4.get b hb))⟩;refine⟨A7,n6+1,K7,h6,y1,_,w1,N.nv - (i+1),U,i+1,rfl,U,rfl,?_,λb hb=>(y5 b hb).elim (lo4 b) (λh=>by have:=k4.next;omega),hk6⟩;show cm h6 A7 (n6+1) K7 (j0 low row c (i+1));rw[j0,if_pos (by rw[hy,hc]),hy3];exact y2
  .rw[j0,if_neg (by rw[hy];intro e;injection e with e;exact hne e)];exact o4
 .obtain rfl:i=N.nv:=U;obtain⟨v,hv,hvr⟩:=zy hp hro hc;obtain⟨u,hu,-⟩:=hx3 v hv;have hmem:u∈j0 low row c N.nv:=(kY _).2 ⟨v,hv,hvr,hu⟩;have hpos:0<n6:=by have:=o4.1;have:=List.length_pos_of_mem hmem;omega
  refine Gv o4 hpos U λh7 o7 m7 z7=>⟨rfl,BR o7 U λm8 h8 o8 m8' z8=>⟨_,_,_,rfl,?_⟩⟩;obtain⟨zs,hzs⟩:∃zs,(j0 low row c N.nv).mergeSort (λx y=>decide (x<=y))=zs:=⟨_,rfl⟩;rw[hzs]at o8;have hsorted:zs.Pairwise (·<=·):=by
   rw[<-hzs];have:=List.pairwise_mergeSort (le:=λ(x y:Int)=>decide (x<=y)) (λa b c h1 h2=>by simp at *;omega) (λa b=>by simp;omega) (j0 low row c N.nv);exact this.imp λh=>by simpa using h
  have hdm:∀x,x∈cQ zs zs.length↔∃v,v<N.nv/\row[v]? = ω (c:Int)/\low[v]? = ω x:=λx=>by
   rw[kW,List.take_length,<-hzs,List.mem_mergeSort,kY]
  have hnn:∀x∈cQ zs zs.length,0<=x:=λx hx=>by
   obtain⟨v,v1,v2,v3⟩:=(hdm x).1 hx;obtain⟨y,hy,y0,-⟩:=hx3 v v1;rw[hy]at v3;injection v3 with v3;omega
  have m48:Mt (ah A6) h4 h8:=m7.then m8';refine hK A6 m8 K6 ((cQ zs zs.length).map Int.toNat) h8 ?_ ⟨?_,λd=>?_⟩ (m48.is_nw (k03.trans k4) λb hb=>by have:=lo4 b hb;have:=k03.next;omega)
  .rw[zx hnn];rcases o8.2 with⟨rfl,h1,rfl⟩ | ⟨g,c',rest,rfl,q1,q2,q3,q4,q5⟩
   .exact⟨o8.1,.inl ⟨rfl,h1,rfl⟩,λh=>absurd h U⟩
   .refine Sa.of_bk q5 o8.1 (by have:=lo4 g rfl;have:=k03.next;omega) q1 λj x hx=>?_;have hj:=(List.getElem?_eq_some_iff.1 hx).1;show((((cQ zs zs.length).map (Value.int .i64) ++ rest).drop (j*1)).take 1) = [ψ η x];rw[Nat.mul_one];exact di (by rw[List.getElem?_append_left (by simpa using hj)];simp[hx])
  .rw[List.pairwise_map];have:=kX hsorted zs.length;refine(List.Pairwise.and_mem.1 this).imp fun {a b} hab=>?_;have h1:=hnn a hab.1;have h2:=hab.2.2;omega
  .rw[List.mem_map];constructor
   .rintro⟨x,hx,rfl⟩;obtain⟨v,v1,v2,v3⟩:=(hdm x).1 hx;exact⟨v,v1,by rw[bS hro v2];simp,by rw[bS hlo v3]⟩
   .rintro⟨v,v1,v2,v3⟩;obtain⟨x,hx',x0,-⟩:=hx v v1;obtain⟨y,hy,y0,-⟩:=hx3 v v1;rw[bS hro hx']at v2;rw[bS hlo hy]at v3;exact⟨y,(hdm y).2 ⟨v,v1,by rw[hx'];congr 1;omega,hy⟩,v3⟩
theorem Gx {o:Nat}{N:ab}(O:eL h F o N p){k c:Nat}(h1:2<=k) (h2:k<=p.length) (hc:c<aq p k)
  (hK:∀A' n' K' ks h',Sa cI (λb=>h.next<=b) h' A' n' K' (ints ks)->fR N p k c ks->Nw h h'->Q (ξ A' n' K') h'):WC Tryz.prog 226 [μ (ω ⟨o,0,ν⟩),ψ η k,ψ η c] h Q:=by
 obtain⟨A,n,K,c0,s⟩:=O.part;exact lO ⟨o,0,rfl,A,n,K,eo c0,Gw O.hp s h1 (by rw[<-s.len];exact h2) hc λA' n' K' ks h' x1 x2 x3=>⟨_,_,_,rfl,hK A' n' K' ks h' x1 x2 x3⟩⟩
end
end Eva
end
section
open Go Go.RowKit
def ab.crB (N:ab) (p:List (List Int)) (k a:Nat):Bool:=decide (ap p k (N.fr a)≠ap p k (N.to a))
namespace Eva
section
variable {h h':AH}{Fa F Fp:Nat->Prop}{g:Nat}{N:ab}{p:List (List Int)}{Q:Value->AH->Prop}{A:Option Addr}{n K:Nat}
theorem xY {nv k:Nat}(hp:aB nv p) (h1:1<=k) (hk:k<=p.length):aq p k<=nv:=by
 have hr:p[k - 1]? = ω (p[k - 1]' U):=List.getElem?_eq_getElem _;have hm:=List.mem_of_getElem? hr;have:=dg (row:=p[k - 1]' U) (n:=(nv:Int)) U (λx hx=>(hp.inr _ hm x hx).2);unfold aq;rw[hr];simp only[Option.getD_some];omega
theorem eM:po cI:=cE _
theorem Gy {k:Nat}{row:List Int}{F1:Nat->Prop}(G:eA h Fa F g N) (hp:aB N.nv p) (hr:p[k - 1]? = ω row) (hs:Sa cI F1 h A n K row){a:Nat}(ha:a<N.na)
  (hK:Q (.tuple #[ψ η ((ap p k (N.fr a):Nat):Int),ψ η ((ap p k (N.to a):Nat):Int),.bool true]) h):WC Tryz.prog 324 [μ (ω ⟨g,0,ν⟩),ξ A n K,ψ η a] h Q:=by
 obtain⟨hl,hx⟩:=cF hp hr;have hn:n=N.nv:=by rw[<-hs.len];exact hl
 have h1:=(ab.fr_lt G.ok ha).1;have h2:=(ab.to_lt G.ok ha).1;refine we (pp G ha ⟨_,rfl,zU G ha ⟨_,rfl,λh=>absurd h U,λ_=>⟨λh=>absurd h U,λ_=>⟨λh=>absurd h U,λ_=>⟨λh=>absurd h U,λ_=>?_⟩⟩⟩⟩⟩);obtain⟨b,o,x,hA,-,-,hy,e0⟩:=hs.int (k:=N.fr a) U;obtain⟨b',o',x',hA',-,-,hy',e0'⟩:=hs.int (k:=N.to a) U;rw[hA]at hA';injection hA' with hA';injection hA' with hA1 hA2;subst hA1 hA2;obtain⟨u,hu,u0,-⟩:=hx _ h1;obtain⟨v,hv,v0,-⟩:=hx _ h2;rw[hy]at hu;rw[hy']at hv;obtain rfl:=Option.some.inj hu;obtain rfl:=Option.some.inj hv;refine⟨_,rfl,_,_,hA,U,_,e0,_,rfl,U,_,e0',?_⟩;rw[bS hr hy,bS hr hy']at hK
 rwa [Int.toNat_of_nonneg u0,Int.toNat_of_nonneg v0]at hK
theorem Fs (G:eA h Fa F g N) (hp:aB N.nv p) (hs:Sa bh Fp h A n K p){k:Nat}(h1:1<=k) (h2:k<=n)
  (hK:∀A' n' K' h',Sa cI (λb=>h.next<=b) h' A' n' K' (ints (bV (N.crB p k) N.na))->Nw h h'->Q (ξ A' n' K') h'):WC Tryz.prog 283 [μ (ω ⟨g,0,ν⟩),.agg #[ξ A n K],ψ η k] h Q:=by
 have hn:n<=6:=by rw[<-hs.len];exact hp.few
 have hna:=G.few.2;refine ue λh1' e1=>?_;obtain⟨k1,g1,z1⟩:=aj e1;have row:∀{Q':Value->AH->Prop},(∀A' n' K' row h',p[k - 1]? = ω row->Sa cI Fp h' A' n' K' row->Nw h1' h'->Q' (ξ A' n' K') h')->WC Tryz.prog 323 [.agg #[ξ A n K],ψ η k] h1' Q':=fun {Q'} hQ=>by
  refine yW λh2' e2=>?_;obtain⟨k2,g2,z2⟩:=aj e2;obtain⟨b,o,A',n',K',row,rfl,hF,hb,hr,e0,s0⟩:=(hs.nw (k1.trans k2)).row (k:=k - 1) U;exact⟨λh=>absurd h U,λ_=>⟨_,_,_,aa g2 rfl,λh=>absurd h U,λ_=>⟨_,_,_,aa g2 rfl,_,af U U,k - 1,U,_,_,rfl,U,_,_,_,e0,hQ _ _ _ _ _ hr s0 k2⟩⟩⟩
 refine⟨_,_,_,eo (aa g1 rfl),row λA3 n3 K3 rw_ h3 hr s3 k3=>⟨_,_,_,rfl,mB (G.nw (k1.trans k3)) ⟨_,rfl,?_⟩⟩⟩;have k13:=k1.trans k3;refine⟨λm A4 n4 K4 x h4=>∃i:Nat,x=i/\i<=N.na/\m=N.na - i/\al cI h4 (ah A4) 3 A4 n4 K4 (ints (bV (N.crB p k) i))/\(∀z,ah A4 z->h3.next<=z)/\Nw h3 h4,N.na,⟨0,rfl,Nat.zero_le _,rfl,al.nil _ _ _ _,λz hz=>hz.elim,Nw.refl _⟩,?_⟩;rintro m A4 n4 K4 x h4 ⟨i,rfl,hi,hm,o4,lo4,k4⟩;have z13:=k13.next;refine⟨λhlt=>Gy (G.nw (k13.trans k4)) hp hr (s3.nw k4) U ⟨_,_,_,rfl,λ_=>⟨λhe=>?_,λhne=>?_⟩,λh=>Bool.noConfusion h⟩,λhge=>?_⟩
 .have hcr:N.crB p k i=false:=by unfold ab.crB;simp;omega
  exact⟨_,(by rw[Int.natCast_succ];exact af U U:IntKind.i64.wrap ((i:Int)+1)=((i+1:Nat):Int)),N.na - (i+1),U,i+1,rfl,U,rfl,by rw[gS,hcr];exact o4,lo4,k4⟩
 .have hcr:N.crB p k i=true:=by unfold ab.crB;simp;omega
  intro h6 e6;obtain⟨k6,g6,z6⟩:=aj e6;have hz:Sz cI (λz=>z=h4.next) h6 (ω ⟨h4.next,0,ν⟩) 1 2 [(i:Int)]:=Sz.one g6 rfl U rfl rfl;have hl4:=o4.len;have hlt4:n4<=1000:=by
   rw[<-hl4];have:=aE (N.crB p k) i;simp only[ints,List.length_map];omega
  obtain⟨A',K',h7,y1,y2,y3,y4⟩:=aV eM dC (o4.nw k6) hz U U;have z4:=k4.next;refine⟨A',n4+1,K',h7,y1,_,(by rw[Int.natCast_succ];exact af U U:IntKind.i64.wrap ((i:Int)+1)=((i+1:Nat):Int)),N.na - (i+1),U,i+1,rfl,U,rfl,?_,λz hz=>(y4 z hz).elim (lo4 z) (λh=>U),y3.is_nw (k4.trans k6) lo4⟩;rw[gS,hcr,if_pos rfl];unfold ints at y2⊢;rw[List.map_append];exact y2
 .obtain rfl:i=N.na:=U;exact hK A4 n4 K4 h4 (o4.sa.mono λz hz _=>by have:=lo4 z hz;omega) (k13.trans k4)
end
end Eva
end
section
open Go Go.RowKit
theorem pu {α:Type}{f:Nat->α}{n k:Nat}(hk:k<n) (v:α):((List.range n).map f).set k v=(List.range n).map (upd f k v):=by
 apply List.ext_getElem?;intro i;rw[List.getElem?_set];by_cases e:k=i
 .subst e;simp[hk,upd]
 .simp only[if_neg e,List.getElem?_map];by_cases hi:i<n
  .simp[List.getElem?_range hi,upd,Ne.symm e]
  .rw[List.getElem?_eq_none (by simpa using hi)];rfl
namespace Eva
theorem DC (z:Value) (n:Nat):dJ n [z,z]=List.replicate (n*2) z:=by
 induction n with
 | zero=>rfl
 | succ n ih=>
  rw[Nat.succ_mul];show [z,z] ++ dJ n [z,z]=_;rw[ih];rfl
structure gv (h:AH) (base b m:Nat) (t:TypeId) (L:Nat->List Nat):Prop where
 rows:∃(A:Nat->Option Addr) (n K:Nat->Nat),Bk h b ((List.range m).map λs=>Value.slice (A s) (n s) (K s)) t/\(∀s,s<m->al cI h (ah (A s)) 3 (A s) (n s) (K s) (ints (L s)))/\(∀s z,s<m->ah (A s) z->base<=z)/\(∀s s' z,s<m->s' < m->ah (A s) z->ah (A s') z->s=s')
 pos:b<base/\base<=h.next
section
variable {h h':AH}{base b m s:Nat}{t:TypeId}{L:Nat->List Nat}
theorem gv.new (hb:Bk h b (List.replicate m (ξ ν 0 0)) t) (hlt:b<h.next):gv h h.next b m t (λ_=>[]):=by
 refine⟨⟨λ_=>ν,λ_=>0,λ_=>0,?_,λs _=>al.nil _ _ _ _,λs z _ hz=>hz.elim,λs s' z _ _ hz=>hz.elim⟩,hlt,Nat.le_refl _⟩;rw[List.map_const',List.length_range];exact hb
theorem gv.nw (S:gv h base b m t L) (a:Nw h h'):gv h' base b m t L:=by
 obtain⟨⟨A,n,K,h1,h2,h3,h4⟩,p1,p2⟩:=S;have:=a.next;exact⟨⟨A,n,K,a.bk U h1,λs hs=>(h2 s hs).nw a,h3,h4⟩,p1,U⟩
theorem gv.app (S:gv h base b m t L) (hs:s<m) (x:Nat) (hlen:(L s).length<=100000) :
  ∃A n K,ldC h b (0+s)=ω (ξ A n K)/\∀h1,h1=AH.new h (.cells [ψ η (x:Int)] 3 false)->∃A' n' K' h2,ai Tryz.prog h1 (ω (.slice 3)) (ω (.slice 3)) (ξ A n K) (ξ (ω ⟨h.next,0,ν⟩) 1 2)=ω (ξ A' n' K',h2)/\
   ∃h3,iE h2 b (0+s) [ξ A' n' K']=ω h3/\gv h3 base b m t (upd L s (L s ++ [x]))/\Mt (λz=>z=b\/base<=z) h h3:=by
 obtain⟨⟨A,n,K,g1,g2,g3,g4⟩,p1,p2⟩:=S;refine⟨A s,n s,K s,by rw[aT g1,Nat.zero_add];simp[hs],λh1 e1=>?_⟩;obtain⟨k1,w1,z1⟩:=aj e1;have hz:Sz cI (λz=>z=h.next) h1 (ω ⟨h.next,0,ν⟩) 1 2 [(x:Int)]:=Sz.one w1 rfl U rfl rfl;have hl:=(g2 s hs).len;have hl':n s<=100000:=by rw[<-hl];simpa[ints]using hlen
 obtain⟨A',K',h2,y1,y2,y3,y4⟩:=aV eM dC ((g2 s hs).nw k1) hz U U;have z2:=y3.next;have nb:∀s',s' < m->¬ah (A s') b:=λs' hs' ho=>by have:=g3 s' b hs' ho;omega
 have b2:=y3.bk U (nb s hs) (k1.bk U g1);obtain⟨h3,s3,b3,z3,o3⟩:=aD (v:=ξ A' (n s+1) K') b2 (o:=0+s) (by simpa using hs) rfl;have m3:Mt (λz=>z=b) h2 h3:=⟨U,λz _ hn=>o3 z hn⟩;have nA':∀z,ah A' z->z≠b/\base<=z:=λz hz=>(y4 z hz).elim (λh=>⟨λe=>nb s hs (e ▸ h),g3 s z hs h⟩) (λh=>⟨U,U⟩);refine⟨A',n s+1,K',h2,y1,h3,s3,⟨⟨upd A s A',upd n s (n s+1),upd K s K',?_,λs' hs'=>?_,λs' z hs' hz=>?_,λs' s'' z hs' hs'' h' h''=>?_⟩,p1,U⟩,⟨U,λz hz hn=>(o3 z (λe=>hn (.inl e))).trans ((y3.get z U (λho=>hn (.inr (g3 s z hs ho)))).trans (k1.get z hz))⟩⟩
 .rw[Nat.zero_add,pu hs]at b3;have e:(λs_1=>Value.slice (upd A s A' s_1) (upd n s (n s+1) s_1) (upd K s K' s_1))=upd (λs=>Value.slice (A s) (n s) (K s)) s (ξ A' (n s+1) K'):=by
   funext i
   unfold upd
   split <;>rfl
  rw[e];exact b3
 .unfold upd;by_cases e:s' = s
  .subst e;simp only[if_true];have:=y2.off m3 λz hz _ e=>(nA' z hz).1 e;unfold ints at this⊢;rw[List.map_append];exact this
  .simp only[if_neg e];exact(((g2 s' hs').nw k1).off y3 λz hz _ ho=>e (g4 s' s z hs' hs hz ho)).off m3 λz hz _ e'=>nb s' hs' (e' ▸ hz)
 .unfold upd at hz;by_cases e:s' = s
  .rw[if_pos e]at hz;exact(nA' z hz).2
  .rw[if_neg e]at hz;exact g3 s' z hs' hz
 .unfold upd at h' h'';have cross:∀{a:Nat},a<m->a≠s->ah (A a) z->ah A' z->False:=fun {a} ha hne h1' h2'=>(y4 z h2').elim (λh=>hne (g4 a s z ha hs h1' h)) (λh=>by have:=(g2 a ha).own h1';omega);by_cases e:s' = s
  .by_cases e':s'' = s
   .omega
   .rw[if_pos e]at h';rw[if_neg e']at h'';exact(cross hs'' e' h'' h').elim
  .by_cases e':s'' = s
   .rw[if_neg e]at h';rw[if_pos e']at h'';exact(cross hs' e h' h'').elim
   .rw[if_neg e]at h';rw[if_neg e']at h'';exact g4 s' s'' z hs' hs'' h' h''
theorem gv.gates {k K:Nat}(S:gv h base b (k*2) t L):Sa Rc.gate (λz=>z=b\/base<=z) h (ω ⟨b,0,ν⟩) k K ((List.range k).map λc=>(ints (L (c*2)),ints (L (c*2+1)))):=by
 obtain⟨⟨A,n,K',g1,g2,g3,g4⟩,p1,p2⟩:=S;refine Sa.of_bk g1 (by simp) (.inl rfl) U λc x hx=>?_;have hc:c<k:=by have:=(List.getElem?_eq_some_iff.1 hx).1;simpa using this
 have hx':x=(ints (L (c*2)),ints (L (c*2+1))):=by simp[hc]at hx;exact hx.symm
 subst hx';refine⟨A (c*2),n (c*2),K' (c*2),A (c*2+1),n (c*2+1),K' (c*2+1),?_,(g2 _ U).sa.mono λz hz _=>.inr (g3 _ z U hz),(g2 _ U).sa.mono λz hz _=>.inr (g3 _ z U hz)⟩;apply List.ext_getElem?;intro i;show((((List.range (k*2)).map λs=>Value.slice (A s) (n s) (K' s)).drop (c*2)).take 2)[i]? = _;rw[List.getElem?_take];by_cases hi:i<2
 .rw[if_pos hi,List.getElem?_drop,List.getElem?_map,List.getElem?_range U]
  match i,hi with
  | 0,_=>rfl
  | 1,_=>rfl
 .rw[if_neg hi,List.getElem?_eq_none (by simp;omega)]
end
end Eva
end
end Go.Proofs.YtmbadhdpcdbdbaaGreatDoor
