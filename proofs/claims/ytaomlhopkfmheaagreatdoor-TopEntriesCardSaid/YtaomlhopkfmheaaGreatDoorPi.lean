/-
Lemmas for TopEntries. No condition.
-/
import Derived.Test.YtaomlhopkfmheaaGreatDoorPb
import Derived.Lib.Hide
import Derived.Test.YtaomlhopkfmheaaGreatDoorPd
import Derived.Test.YtaomlhopkfmheaaGreatDoorPh
namespace Go.Proofs.YtaomlhopkfmheaaGreatDoor
set_option linter.unusedVariables false
set_option linter.unusedSimpArgs false
set_option linter.unusedSectionVars false
set_option linter.unnecessarySimpa false
section
open Go Go.RowKit
namespace Eva
section
variable {h h' h'':AH}{b b' o:Nat}{ao:AO}{c:List Value}{e:TypeId}{f:Bool}{v:Value}
theorem get_new (h:AH) (ao:AO) (b:Nat):(h.new ao).get b=if b=h.next then some ao else h.get b:=by
 show(h.t.set h.next (some ao)).get b=_
 by_cases e:b=h.next
 ·subst e;rw[Tr.get_set,if_pos rfl]
 ·rw[Tr.get_set_ne _ _ (λh=>e h.symm),if_neg e];rfl
theorem get_put (h:AH) (n:Nat) (ao:AO) (b:Nat):(h.put n ao).get b=if b=n then some ao else h.get b:=by
 show(h.t.set n (some ao)).get b=_
 by_cases e:b=n
 ·subst e;rw[Tr.get_set,if_pos rfl]
 ·rw[Tr.get_set_ne _ _ (λh=>e h.symm),if_neg e];rfl
theorem get_del (h:AH) (n b:Nat):(h.del n).get b=if b=n then none else h.get b:=by
 show(h.t.set n none).get b=_
 by_cases e:b=n
 ·subst e;rw[Tr.get_set,if_pos rfl]
 ·rw[Tr.get_set_ne _ _ (λh=>e h.symm),if_neg e];rfl
theorem fK (h:AH) (ao:AO):(h.new ao).next=h.next+1:=rfl
theorem ic (h:AH) (n:Nat):(h.del n).next=h.next:=rfl
abbrev Bk (h:AH) (b:Nat) (c:List Value) (e:TypeId):Prop:=h.get b=some (.cells c e false)
theorem aa (hb:h.get b=some (.cells c e f)) (ho:c[o]? = some v):ldC h b o=some v:=by
 unfold ldC aS;rw[hb];exact ho
theorem aP (hb:h.get b=some (.cells c e f)) (o:Nat):ldC h b o=c[o]?:=by
 unfold ldC aS;rw[hb]
theorem aW (hb:h'.get b=h.get b) (o:Nat):ldC h' b o=ldC h b o:=by
 unfold ldC aS;rw[hb]
theorem rm {l:List Value}{o n:Nat}(hl:o+n<=l.length):mg l o n=some ((l.drop o).take n):=by
 unfold mg
 have:((l.drop o).take n).length=n:=by simp;omega
 simp only[this,Nat.beq_refl,cond_true]
theorem bY (hb:h.get b=some (.cells c e f)){n:Nat}(ho:o+n<=c.length):ldN h b o n=some ((c.drop o).take n):=by
 unfold ldN aS;rw[hb];exact rm ho
theorem lR (hl:ldC h b o=some v):∃c e f,h.get b=some (.cells c e f)/\c[o]? = some v:=by
 unfold ldC aS at hl
 cases hg:h.get b with
 | none=>rw[hg]at hl;cases hl
 | some ao=>
  rw[hg]at hl
  cases ao with
  | cells c e f=>exact⟨c,e,f,rfl,hl⟩
  | map es k=>cases hl
  | iter s p=>cases hl
theorem jt {n:Nat}{l:List Value}(hl:l.length=n) (hn:0<n) (hc:∀j u,l[j]? = some u->ldC h b (o+j)=some u):ldN h b o n=some l:=by
 have h0:=hc 0 (l[0]'(by omega)) (List.getElem?_eq_getElem (by omega))
 obtain⟨c,e,f,hg,-⟩:=lR h0
 have key:∀j u,l[j]? = some u->c[o+j]? = some u:=λj u hj=>by have:=hc j u hj;rwa [aP hg]at this
 have hlen:o+n<=c.length:=by
  have:=key (n - 1) (l[n - 1]'(by omega)) (List.getElem?_eq_getElem (by omega))
  have:=(List.getElem?_eq_some_iff.1 this).1
  omega
 rw[bY hg hlen]
 congr 1
 apply List.ext_getElem?
 intro j
 rw[List.getElem?_take,List.getElem?_drop]
 by_cases hj:j<n
 ·rw[if_pos hj,key j l[j] (List.getElem?_eq_getElem (by omega)),List.getElem?_eq_getElem (by omega)]
 ·rw[if_neg hj,List.getElem?_eq_none (by omega)]
theorem mc:∀(c:List Value) (o:Nat) (vs:List Value),o+vs.length<=c.length->gE c o vs=some (c.take o ++ vs ++ c.drop (o+vs.length))
 | c,o,[],_=>by cases c <;>simp[gE]
 | [],o,v :: vs,hl=>by simp at hl
 | x :: c,0,v :: vs,hl=>by
  show(gE c 0 vs).map (v :: ·)=_
  rw[mc c 0 vs (by simp at hl;simp;omega)]
  simp
 | x :: c,o+1,v :: vs,hl=>by
  show(gE c o (v :: vs)).map (x :: ·)=_
  rw[mc c o (v :: vs) (by simp at hl;simp;omega)]
  rw[show o+1+(v :: vs).length=(o+(v :: vs).length)+1 by omega,List.drop_succ_cons]
  rfl
theorem zv {o:Nat}(ho:o<c.length):gE c o [v]=some (c.set o v):=by
 rw[mc c o [v] (by simp;omega)]
 congr 1
 rw[List.set_eq_take_append_cons_drop,if_pos ho]
 simp
theorem st1 (hb:Bk h b c e) (ho:o<c.length) (hf:flat v=true):stC h b o [v]=some (h.put b (.cells (c.set o v) e false)):=by
 unfold stC cL
 simp only
 rw[hb]
 simp only
 have:aO flat [v]=true:=by unfold aO;simp only[hf];rfl
 rw[this,zv ho]
 rfl
theorem nP {α:Type}{p:α->Bool}:∀{l:List α},(∀x∈l,p x=true)->aO p l=true
 | [],_=>rfl
 | x :: l,hl=>by
  show cond (p x) (aO p l) false=true
  rw[hl x (by simp),nP λy hy=>hl y (List.mem_cons_of_mem _ hy)];rfl
theorem stN {vs:List Value}(hb:Bk h b c e) (ho:o+vs.length<=c.length) (hf:∀v∈vs,flat v=true):stC h b o vs=some (h.put b (.cells (c.take o ++ vs ++ c.drop (o+vs.length)) e false)):=by
 unfold stC cL
 simp only
 rw[hb]
 simp only
 rw[nP hf,mc c o vs ho]
 rfl
structure Nw (h h':AH):Prop where
 next:h.next<=h'.next
 get:∀b,b<h.next->h'.get b=h.get b
theorem Nw.refl (h:AH):Nw h h:=⟨Nat.le_refl _,λ_ _=>rfl⟩
theorem Nw.trans (a:Nw h h') (k:Nw h' h''):Nw h h'':=⟨Nat.le_trans a.next k.next,λb hb=>(k.get b (Nat.lt_of_lt_of_le hb a.next)).trans (a.get b hb)⟩
theorem Nw.new (h:AH) (ao:AO):Nw h (h.new ao):=⟨Nat.le_succ _,λb hb=>by rw[get_new,if_neg (by omega)]⟩
theorem Nw.put (a:Nw h h'){n:Nat}(hn:h.next<=n) (ao:AO):Nw h (h'.put n ao):=⟨a.next,λb hb=>by rw[get_put,if_neg (by omega)];exact a.get b hb⟩
theorem Nw.del (a:Nw h h'){n:Nat}(hn:h.next<=n):Nw h (h'.del n):=⟨a.next,λb hb=>by rw[get_del,if_neg (by omega)];exact a.get b hb⟩
theorem Nw.ldC (a:Nw h h') (hb:b<h.next) (o:Nat):ldC h' b o=Eva.ldC h b o:=aW (a.get b hb) o
theorem Nw.bk (a:Nw h h') (hb:b<h.next) (hk:Bk h b c e):Bk h' b c e:=(a.get b hb).trans hk
theorem aj (e1:h' = h.new ao):Nw h h'/\h'.get h.next=some ao/\h'.next=h.next+1:=by
 subst e1
 exact⟨Nw.new h ao,by rw[get_new,if_pos rfl],rfl⟩
structure Mt (S:Nat->Prop) (h h':AH):Prop where
 next:h.next<=h'.next
 get:∀b,b<h.next->¬S b->h'.get b=h.get b
section
variable {S S':Nat->Prop}
theorem Mt.refl (S:Nat->Prop) (h:AH):Mt S h h:=⟨Nat.le_refl _,λ_ _ _=>rfl⟩
theorem Mt.of (a:Nw h h'):Mt S h h':=⟨a.next,λb hb _=>a.get b hb⟩
theorem Mt.trans (a:Mt S h h') (k:Mt S' h' h'') (hS:∀b,S' b->b<h.next->S b):Mt S h h'':=⟨Nat.le_trans a.next k.next,λb hb hn=>(k.get b (Nat.lt_of_lt_of_le hb a.next) (λhs=>hn (hS b hs hb))).trans (a.get b hb hn)⟩
theorem Mt.then (a:Mt S h h') (k:Mt S h' h''):Mt S h h'':=a.trans k λ_ h _=>h
theorem Mt.nw (a:Mt S h h') (k:Nw h' h''):Mt S h h'':=a.then (.of k)
theorem Mt.mono (a:Mt S h h') (hS:∀b,S b->b<h.next->S' b):Mt S' h h':=⟨a.next,λb hb hn=>a.get b hb (λhs=>hn (hS b hs hb))⟩
theorem Mt.put (a:Mt S h h'){n:Nat}(hn:S n\/h.next<=n) (ao:AO):Mt S h (h'.put n ao):=⟨a.next,λb hb hs=>by
 rw[get_put,if_neg (λe=>by subst e;exact hn.elim hs (λh=>by omega))];exact a.get b hb hs⟩
theorem Mt.del (a:Mt S h h'){n:Nat}(hn:S n\/h.next<=n):Mt S h (h'.del n):=⟨a.next,λb hb hs=>by
 rw[get_del,if_neg (λe=>by subst e;exact hn.elim hs (λh=>by omega))];exact a.get b hb hs⟩
theorem Mt.is_nw {h0:AH}(a:Mt S h h') (k:Nw h0 h) (hS:∀b,S b->h0.next<=b):Nw h0 h':=⟨Nat.le_trans k.next a.next,λb hb=>(a.get b (Nat.lt_of_lt_of_le hb k.next) (λhs=>by have:=hS b hs;omega)).trans (k.get b hb)⟩
theorem Mt.bk (a:Mt S h h') (hb:b<h.next) (hs:¬S b) (hk:Bk h b c e):Bk h' b c e:=(a.get b hb hs).trans hk
theorem Mt.ldC (a:Mt S h h') (hb:b<h.next) (hs:¬S b) (o:Nat):ldC h' b o=Eva.ldC h b o:=aW (a.get b hb hs) o
end
end
structure Rc (α:Type) where
 size:Nat
 rel:(Nat->Prop)->AH->List Value->α->Prop
 len:∀{F h cs x},rel F h cs x->cs.length=size
 flat:∀{F h cs x},rel F h cs x->∀u∈cs,flat u=true
 keep:∀{F h h' cs x},(∀b,F b->b<h.next->h'.get b=h.get b)->h.next<=h'.next->rel F h cs x->rel F h' cs x
 mono:∀{F G h cs x},(∀b,F b->b<h.next->G b)->rel F h cs x->rel G h cs x
structure Sz {α:Type}(r:Rc α) (F:Nat->Prop) (h:AH) (A:Option Addr) (n K:Nat) (xs:List α):Prop where
 len:xs.length=n
 at_:0<n->∃b o,A=some ⟨b,o,none⟩/\F b/\b<h.next/\∀k x,xs[k]? = some x->∃cs,(∀j u,cs[j]? = some u->ldC h b (o+(k*r.size+j))=some u)/\r.rel F h cs x
structure Sa {α:Type}(r:Rc α) (F:Nat->Prop) (h:AH) (A:Option Addr) (n K:Nat) (xs:List α):Prop where
 len:xs.length=n
 shape:(A=none/\n=0/\K=0)\/∃b o,A=some ⟨b,o,none⟩
 at_:0<n->∃b o,A=some ⟨b,o,none⟩/\F b/\b<h.next/\∀k x,xs[k]? = some x->∃cs,(∀j u,cs[j]? = some u->ldC h b (o+(k*r.size+j))=some u)/\r.rel F h cs x
section
variable {α:Type}{r:Rc α}{F G S:Nat->Prop}{h h':AH}{A:Option Addr}{n K:Nat}{xs:List α}
theorem Sa.keep (hs:Sa r F h A n K xs) (hk:∀b,F b->b<h.next->h'.get b=h.get b) (hn:h.next<=h'.next):Sa r F h' A n K xs:=by
 refine⟨hs.len,hs.shape,λh0=>?_⟩
 obtain⟨b,o,hA,hF,hb,hx⟩:=hs.at_ h0
 refine⟨b,o,hA,hF,Nat.lt_of_lt_of_le hb hn,λk x hkx=>?_⟩
 obtain⟨cs,hc,hr⟩:=hx k x hkx
 exact⟨cs,λj u hu=>(aW (hk b hF hb) _).trans (hc j u hu),r.keep hk hn hr⟩
theorem Sa.nw (hs:Sa r F h A n K xs) (a:Nw h h'):Sa r F h' A n K xs:=hs.keep (λb _ hb=>a.get b hb) a.next
theorem Sa.off (hs:Sa r F h A n K xs) (a:Mt S h h') (hS:∀b,F b->¬S b):Sa r F h' A n K xs:=hs.keep (λb hF hb=>a.get b hb (hS b hF)) a.next
theorem Sa.mono (hs:Sa r F h A n K xs) (hFG:∀b,F b->b<h.next->G b):Sa r G h A n K xs:=by
 refine⟨hs.len,hs.shape,λh0=>?_⟩
 obtain⟨b,o,hA,hF,hb,hx⟩:=hs.at_ h0
 refine⟨b,o,hA,hFG b hF hb,hb,λk x hkx=>?_⟩
 obtain⟨cs,hc,hr⟩:=hx k x hkx
 exact⟨cs,hc,r.mono hFG hr⟩
theorem Sa.nil (r:Rc α) (F:Nat->Prop) (h:AH):Sa r F h none 0 0 []:=⟨rfl,.inl ⟨rfl,rfl,rfl⟩,λh=>absurd h (by omega)⟩
theorem Sa.nil0 (hs:Sa r F h A n K xs) (hA:A=none):n=0/\K=0:=by
 rcases hs.shape with⟨_,h1,h2⟩ | ⟨b,o,h1⟩
 ·exact⟨h1,h2⟩
 ·rw[hA]at h1;cases h1
theorem Sa.some_ (hs:Sa r F h A n K xs) (hA:A≠none):∃b o,A=some ⟨b,o,none⟩:=by
 rcases hs.shape with⟨h1,_,_⟩ | h1
 ·exact absurd h1 hA
 ·exact h1
theorem Sa.eqok (hs:Sa r F h A n K xs):aZ (.slice A n K):=by
 rcases hs.shape with⟨rfl,_,_⟩ | ⟨b,o,rfl⟩
 ·trivial
 ·rfl
theorem Sa.z (hs:Sa r F h A n K xs):Sz r F h A n K xs:=⟨hs.len,hs.at_⟩
theorem Sz.keep (hs:Sz r F h A n K xs) (hk:∀b,F b->b<h.next->h'.get b=h.get b) (hn:h.next<=h'.next):Sz r F h' A n K xs:=by
 refine⟨hs.len,λh0=>?_⟩
 obtain⟨b,o,hA,hF,hb,hx⟩:=hs.at_ h0
 refine⟨b,o,hA,hF,Nat.lt_of_lt_of_le hb hn,λk x hkx=>?_⟩
 obtain⟨cs,hc,hr⟩:=hx k x hkx
 exact⟨cs,λj u hu=>(aW (hk b hF hb) _).trans (hc j u hu),r.keep hk hn hr⟩
theorem Sz.nw (hs:Sz r F h A n K xs) (a:Nw h h'):Sz r F h' A n K xs:=hs.keep (λb _ hb=>a.get b hb) a.next
theorem Sz.off (hs:Sz r F h A n K xs) (a:Mt S h h') (hS:∀b,F b->¬S b):Sz r F h' A n K xs:=hs.keep (λb hF hb=>a.get b hb (hS b hF)) a.next
theorem Sz.mono (hs:Sz r F h A n K xs) (hFG:∀b,F b->b<h.next->G b):Sz r G h A n K xs:=by
 refine⟨hs.len,λh0=>?_⟩
 obtain⟨b,o,hA,hF,hb,hx⟩:=hs.at_ h0
 refine⟨b,o,hA,hFG b hF hb,hb,λk x hkx=>?_⟩
 obtain⟨cs,hc,hr⟩:=hx k x hkx
 exact⟨cs,hc,r.mono hFG hr⟩
theorem Sz.get (hs:Sz r F h A n K xs){k:Nat}(hk:k<n):∃b o x cs,A=some ⟨b,o,none⟩/\F b/\b<h.next/\xs[k]? = some x/\(∀j u,cs[j]? = some u->ldC h b (o+(k*r.size+j))=some u)/\r.rel F h cs x:=by
 obtain⟨b,o,hA,hF,hb,hx⟩:=hs.at_ (by omega)
 have hl:k<xs.length:=by rw[hs.len];exact hk
 obtain⟨cs,hc,hr⟩:=hx k xs[k] (List.getElem?_eq_getElem hl)
 exact⟨b,o,xs[k],cs,hA,hF,hb,List.getElem?_eq_getElem hl,hc,hr⟩
theorem Sa.get (hs:Sa r F h A n K xs){k:Nat}(hk:k<n):∃b o x cs,A=some ⟨b,o,none⟩/\F b/\b<h.next/\xs[k]? = some x/\(∀j u,cs[j]? = some u->ldC h b (o+(k*r.size+j))=some u)/\r.rel F h cs x:=by
 obtain⟨b,o,hA,hF,hb,hx⟩:=hs.at_ (by omega)
 have hl:k<xs.length:=by rw[hs.len];exact hk
 obtain⟨cs,hc,hr⟩:=hx k xs[k] (List.getElem?_eq_getElem hl)
 exact⟨b,o,xs[k],cs,hA,hF,hb,List.getElem?_eq_getElem hl,hc,hr⟩
end
def Rc.int (k:IntKind):Rc Int where
 size:=1
 rel:=λ_ _ cs x=>cs = [.int k x]
 len:=λh=>by rw[h];rfl
 flat:=λh u hu=>by rw[h]at hu;simp at hu;subst hu;rfl
 keep:=λ_ _ h=>h
 mono:=λ_ h=>h
def Rc.bool:Rc Bool where
 size:=1
 rel:=λ_ _ cs x=>cs = [.bool x]
 len:=λh=>by rw[h];rfl
 flat:=λh u hu=>by rw[h]at hu;simp at hu;subst hu;rfl
 keep:=λ_ _ h=>h
 mono:=λ_ h=>h
def Rc.slice {α:Type}(r:Rc α):Rc (List α) where
 size:=1
 rel:=λF h cs xs=>∃A n K,cs = [.slice A n K]/\Sa r F h A n K xs
 len:=λ⟨_,_,_,h,_⟩=>by rw[h];rfl
 flat:=λ⟨_,_,_,h,_⟩ u hu=>by rw[h]at hu;simp at hu;subst hu;rfl
 keep:=λhk hn ⟨A,n,K,h,hs⟩=>⟨A,n,K,h,hs.keep hk hn⟩
 mono:=λhFG ⟨A,n,K,h,hs⟩=>⟨A,n,K,h,hs.mono hFG⟩
def Rc.sliceZ {α:Type}(r:Rc α):Rc (List α) where
 size:=1
 rel:=λF h cs xs=>∃A n K,cs = [.slice A n K]/\Sz r F h A n K xs
 len:=λ⟨_,_,_,h,_⟩=>by rw[h];rfl
 flat:=λ⟨_,_,_,h,_⟩ u hu=>by rw[h]at hu;simp at hu;subst hu;rfl
 keep:=λhk hn ⟨A,n,K,h,hs⟩=>⟨A,n,K,h,hs.keep hk hn⟩
 mono:=λhFG ⟨A,n,K,h,hs⟩=>⟨A,n,K,h,hs.mono hFG⟩
def Rc.tableZ:Rc (Int×Int×List Int) where
 size:=3
 rel:=λF h cs x=>∃A n K,cs = [.int .i64 x.1,.int .i64 x.2.1,.slice A n K]/\Sz (Rc.int .i64) F h A n K x.2.2
 len:=λ⟨_,_,_,h,_⟩=>by rw[h];rfl
 flat:=λ⟨_,_,_,h,_⟩ u hu=>by rw[h]at hu;simp at hu;rcases hu with rfl | rfl | rfl <;>rfl
 keep:=λhk hn ⟨A,n,K,h,hs⟩=>⟨A,n,K,h,hs.keep hk hn⟩
 mono:=λhFG ⟨A,n,K,h,hs⟩=>⟨A,n,K,h,hs.mono hFG⟩
def Rc.pair (k k':IntKind):Rc (Int×Int) where
 size:=2
 rel:=λ_ _ cs x=>cs = [.int k x.1,.int k' x.2]
 len:=λh=>by rw[h];rfl
 flat:=λh u hu=>by rw[h]at hu;simp at hu;rcases hu with rfl | rfl <;>rfl
 keep:=λ_ _ h=>h
 mono:=λ_ h=>h
def Rc.tri (k k' k'':IntKind):Rc (Int×Int×Int) where
 size:=3
 rel:=λ_ _ cs x=>cs = [.int k x.1,.int k' x.2.1,.int k'' x.2.2]
 len:=λh=>by rw[h];rfl
 flat:=λh u hu=>by rw[h]at hu;simp at hu;rcases hu with rfl | rfl | rfl <;>rfl
 keep:=λ_ _ h=>h
 mono:=λ_ h=>h
def Rc.table:Rc (Int×Int×List Int) where
 size:=3
 rel:=λF h cs x=>∃A n K,cs = [.int .i64 x.1,.int .i64 x.2.1,.slice A n K]/\Sa (Rc.int .i64) F h A n K x.2.2
 len:=λ⟨_,_,_,h,_⟩=>by rw[h];rfl
 flat:=λ⟨_,_,_,h,_⟩ u hu=>by rw[h]at hu;simp at hu;rcases hu with rfl | rfl | rfl <;>rfl
 keep:=λhk hn ⟨A,n,K,h,hs⟩=>⟨A,n,K,h,hs.keep hk hn⟩
 mono:=λhFG ⟨A,n,K,h,hs⟩=>⟨A,n,K,h,hs.mono hFG⟩
def Rc.gate:Rc (List Int×List Int) where
 size:=2
 rel:=λF h cs x=>∃A n K B m L,cs = [.slice A n K,.slice B m L]/\Sa (Rc.int .i64) F h A n K x.1/\Sa (Rc.int .i64) F h B m L x.2
 len:=λ⟨_,_,_,_,_,_,h,_,_⟩=>by rw[h];rfl
 flat:=λ⟨_,_,_,_,_,_,h,_,_⟩ u hu=>by rw[h]at hu;simp at hu;rcases hu with rfl | rfl <;>rfl
 keep:=λhk hn ⟨A,n,K,B,m,L,h,h1,h2⟩=>⟨A,n,K,B,m,L,h,h1.keep hk hn,h2.keep hk hn⟩
 mono:=λhFG ⟨A,n,K,B,m,L,h,h1,h2⟩=>⟨A,n,K,B,m,L,h,h1.mono hFG,h2.mono hFG⟩
abbrev cI:Rc Int:=Rc.int .i64
abbrev aY:Rc (List Int):=Rc.slice cI
section
variable {F:Nat->Prop}{h:AH}{A:Option Addr}{n K:Nat}
theorem Sa.int {xs:List Int}(hs:Sa cI F h A n K xs){k:Nat}(hk:k<n):∃b o x,A=some ⟨b,o,none⟩/\F b/\b<h.next/\xs[k]? = some x/\ldC h b (o+k)=some (.int .i64 x):=by
 obtain⟨b,o,x,cs,hA,hF,hb,hx,hc,hr⟩:=hs.get hk
 refine⟨b,o,x,hA,hF,hb,hx,?_⟩
 have hr':cs = [.int .i64 x]:=hr
 have:=hc 0 (.int .i64 x) (by rw[hr'];rfl)
 simpa[Rc.int]using this
theorem Sa.bool {xs:List Bool}(hs:Sa Rc.bool F h A n K xs){k:Nat}(hk:k<n):∃b o x,A=some ⟨b,o,none⟩/\F b/\b<h.next/\xs[k]? = some x/\ldC h b (o+k)=some (.bool x):=by
 obtain⟨b,o,x,cs,hA,hF,hb,hx,hc,hr⟩:=hs.get hk
 refine⟨b,o,x,hA,hF,hb,hx,?_⟩
 have hr':cs = [.bool x]:=hr
 have:=hc 0 (.bool x) (by rw[hr'];rfl)
 simpa[Rc.bool]using this
theorem Sa.row {α:Type}{r:Rc α}{xs:List (List α)}(hs:Sa (Rc.slice r) F h A n K xs){k:Nat}(hk:k<n):∃b o A' n' K' x,A=some ⟨b,o,none⟩/\F b/\b<h.next/\xs[k]? = some x/\ldC h b (o+k)=some (.slice A' n' K')/\Sa r F h A' n' K' x:=by
 obtain⟨b,o,x,cs,hA,hF,hb,hx,hc,A',n',K',hcs,hs'⟩:=hs.get hk
 refine⟨b,o,A',n',K',x,hA,hF,hb,hx,?_,hs'⟩
 have:=hc 0 (.slice A' n' K') (by rw[hcs];rfl)
 simpa[Rc.slice]using this
theorem Sa.pair {xs:List (Int×Int)}(hs:Sa (Rc.pair .i64 .i64) F h A n K xs){k:Nat}(hk:k<n):∃b o x y,A=some ⟨b,o,none⟩/\F b/\b<h.next/\xs[k]? = some (x,y)/\ldC h b (o+k*2)=some (.int .i64 x)/\ldC h b (o+k*2+1)=some (.int .i64 y):=by
 obtain⟨b,o,x,cs,hA,hF,hb,hx,hc,hr⟩:=hs.get hk
 have hr':cs = [.int .i64 x.1,.int .i64 x.2]:=hr
 have h0:=hc 0 (.int .i64 x.1) (by rw[hr'];rfl)
 have h1:=hc 1 (.int .i64 x.2) (by rw[hr'];rfl)
 exact⟨b,o,x.1,x.2,hA,hF,hb,hx,by simpa[Rc.pair]using h0,by simpa[Rc.pair,Nat.add_assoc]using h1⟩
theorem Sa.tri {xs:List (Int×Int×Int)}(hs:Sa (Rc.tri .i64 .i64 .i64) F h A n K xs){k:Nat}(hk:k<n):∃b o x y z,A=some ⟨b,o,none⟩/\F b/\b<h.next/\xs[k]? = some (x,y,z)/\ldC h b (o+k*3)=some (.int .i64 x)/\ldC h b (o+k*3+1)=some (.int .i64 y)/\ldC h b (o+k*3+2)=some (.int .i64 z):=by
 obtain⟨b,o,x,cs,hA,hF,hb,hx,hc,hr⟩:=hs.get hk
 have hr':cs = [.int .i64 x.1,.int .i64 x.2.1,.int .i64 x.2.2]:=hr
 have h0:=hc 0 (.int .i64 x.1) (by rw[hr'];rfl)
 have h1:=hc 1 (.int .i64 x.2.1) (by rw[hr'];rfl)
 have h2:=hc 2 (.int .i64 x.2.2) (by rw[hr'];rfl)
 exact⟨b,o,x.1,x.2.1,x.2.2,hA,hF,hb,hx,by simpa[Rc.tri]using h0,by simpa[Rc.tri,Nat.add_assoc]using h1,by simpa[Rc.tri,Nat.add_assoc]using h2⟩
theorem Sa.table {xs:List (Int×Int×List Int)}(hs:Sa Rc.table F h A n K xs){k:Nat}(hk:k<n):∃b o x y A' n' K' zs,A=some ⟨b,o,none⟩/\F b/\b<h.next/\xs[k]? = some (x,y,zs)/\ldC h b (o+k*3)=some (.int .i64 x)/\ldC h b (o+k*3+1)=some (.int .i64 y)/\ldC h b (o+k*3+2)=some (.slice A' n' K')/\Sa cI F h A' n' K' zs:=by
 obtain⟨b,o,x,cs,hA,hF,hb,hx,hc,A',n',K',hr',hs'⟩:=hs.get hk
 have h0:=hc 0 (.int .i64 x.1) (by rw[hr'];rfl)
 have h1:=hc 1 (.int .i64 x.2.1) (by rw[hr'];rfl)
 have h2:=hc 2 (.slice A' n' K') (by rw[hr'];rfl)
 exact⟨b,o,x.1,x.2.1,A',n',K',x.2.2,hA,hF,hb,hx,by simpa[Rc.table]using h0,by simpa[Rc.table,Nat.add_assoc]using h1,by simpa[Rc.table,Nat.add_assoc]using h2,hs'⟩
theorem Sa.gate {xs:List (List Int×List Int)}(hs:Sa Rc.gate F h A n K xs){k:Nat}(hk:k<n):∃b o A1 n1 K1 A2 n2 K2 x y,A=some ⟨b,o,none⟩/\F b/\b<h.next/\xs[k]? = some (x,y)/\ldC h b (o+k*2)=some (.slice A1 n1 K1)/\ldC h b (o+k*2+1)=some (.slice A2 n2 K2)/\Sa cI F h A1 n1 K1 x/\Sa cI F h A2 n2 K2 y:=by
 obtain⟨b,o,x,cs,hA,hF,hb,hx,hc,A1,n1,K1,A2,n2,K2,hr',s1,s2⟩:=hs.get hk
 have h0:=hc 0 (.slice A1 n1 K1) (by rw[hr'];rfl)
 have h1:=hc 1 (.slice A2 n2 K2) (by rw[hr'];rfl)
 exact⟨b,o,A1,n1,K1,A2,n2,K2,x.1,x.2,hA,hF,hb,hx,by simpa[Rc.gate]using h0,by simpa[Rc.gate,Nat.add_assoc]using h1,s1,s2⟩
theorem Sz.cells {α:Type}{r:Rc α}{xs:List α}(hs:Sz r F h A n K xs) (hn:0<n):∃(b o:Nat) (cells:List Value),A=some ⟨b,o,none⟩/\F b/\b<h.next/\cells.length=n*r.size/\(∀j u,cells[j]? = some u->ldC h b (o+j)=some u)/\(∀u∈cells,flat u=true)/\
  ∀k x,xs[k]? = some x->r.rel F h ((cells.drop (k*r.size)).take r.size) x:=by
 obtain⟨b,o,hA,hF,hb,hx⟩:=hs.at_ hn
 have key:∀(l:List α) (k0:Nat),(∀k x,l[k]? = some x->xs[k0+k]? = some x)->∃cells:List Value,cells.length=l.length*r.size/\(∀j u,cells[j]? = some u->ldC h b (o+(k0*r.size+j))=some u)/\(∀u∈cells,flat u=true)/\
   ∀k x,l[k]? = some x->r.rel F h ((cells.drop (k*r.size)).take r.size) x:=by
  intro l
  induction l with
  | nil=>exact λk0 _=>⟨[],by simp,by simp,by simp,by simp⟩
  | cons y l ih=>
   intro k0 hl
   obtain⟨cells,h1,h2,h3,h4⟩:=ih (k0+1) λk x hk=>by
    have:=hl (k+1) x (by simpa using hk)
    rwa [show k0+(k+1)=k0+1+k by omega]at this
   obtain⟨cs,hc,hr'⟩:=hx k0 y (by have:=hl 0 y rfl;simpa using this)
   have hlen:=r.len hr'
   refine⟨cs ++ cells,by rw[List.length_append,h1,hlen,List.length_cons,Nat.succ_mul,Nat.add_comm],λj u hj=>?_,λu hu=>?_,λk x hk=>?_⟩
   ·rw[List.getElem?_append]at hj
    split at hj
    ·exact hc j u hj
    ·rename_i hlt
     have:=h2 _ u hj
     rwa [show o+((k0+1)*r.size+(j - cs.length))=o+(k0*r.size+j) by rw[hlen]at *;rw[Nat.succ_mul];omega]at this
   ·rcases List.mem_append.1 hu with hu | hu
    ·exact r.flat hr' u hu
    ·exact h3 u hu
   ·cases k with
    | zero=>
     simp at hk
     subst hk
     rw[Nat.zero_mul,List.drop_zero,<-hlen,List.take_left]
     exact hr'
    | succ k=>
     have h5:=h4 k x (by simpa using hk)
     rw[show(k+1)*r.size=cs.length+k*r.size by rw[hlen,Nat.succ_mul,Nat.add_comm],<-List.drop_drop,List.drop_left]
     exact h5
 obtain⟨cells,h1,h2,h3,h4⟩:=key xs 0 (λk x hk=>by simpa using hk)
 exact⟨b,o,cells,hA,hF,hb,by rw[h1,hs.len],λj u hj=>by simpa using h2 j u hj,h3,h4⟩
theorem Sa.cells {α:Type}{r:Rc α}{xs:List α}(hs:Sa r F h A n K xs) (hn:0<n):∃(b o:Nat) (cells:List Value),A=some ⟨b,o,none⟩/\F b/\b<h.next/\cells.length=n*r.size/\(∀j u,cells[j]? = some u->ldC h b (o+j)=some u)/\(∀u∈cells,flat u=true)/\
  ∀k x,xs[k]? = some x->r.rel F h ((cells.drop (k*r.size)).take r.size) x:=hs.z.cells hn
theorem Sa.of_bk {α:Type}{r:Rc α}{xs:List α}{g:Nat}{e:TypeId}{f:Bool}{c:List Value}(hb:h.get g=some (.cells c e f)) (hl:xs.length=n) (hF:F g) (hg:g<h.next) (hx:∀k x,xs[k]? = some x->r.rel F h ((c.drop (k*r.size)).take r.size) x):Sa r F h (some ⟨g,0,none⟩) n K xs:=by
 refine⟨hl,.inr ⟨_,_,rfl⟩,λ_=>⟨g,0,rfl,hF,hg,λk x hk=>⟨_,λj u hu=>?_,hx k x hk⟩⟩⟩
 rw[aP hb]
 rw[List.getElem?_take]at hu
 split at hu
 ·rwa [List.getElem?_drop,<-Nat.zero_add (k*r.size+j)]at hu
 ·cases hu
theorem cR {α:Type}{l:List α}{k:Nat}{a:α}(h:l[k]? = some a):(l.drop k).take 1 = [a]:=by
 have hk:k<l.length:=(List.getElem?_eq_some_iff.1 h).1
 rw[List.drop_eq_getElem_cons hk]
 simp[(List.getElem?_eq_some_iff.1 h).2]
theorem Sa.of_ints {xs:List Int}{g:Nat}{e:TypeId}{f:Bool}{k:IntKind}(hb:h.get g=some (.cells (xs.map (Value.int k)) e f)) (hl:xs.length=n) (hF:F g) (hg:g<h.next):Sa (Rc.int k) F h (some ⟨g,0,none⟩) n K xs:=
 Sa.of_bk hb hl hF hg λi x hx=>by
  show(((xs.map (Value.int k)).drop (i*1)).take 1)=_
  rw[Nat.mul_one]
  exact cR (by simp[hx])
end
def tyB (P:Program) (e:TypeId) (size bytes:Nat):Bool:=
 match P.info? e with
 | some i=>Nat.beq i.size size && Nat.beq i.bytes bytes && !(Nat.beq i.size 0) && Nat.blt i.bytes 1000000 && fq i
 | none=>false
theorem a9 (z:Value) (n:Nat):rep n [z]=List.replicate n z:=by
 induction n with
 | zero=>rfl
 | succ n ih=>
  show [z] ++ rep n [z]=_
  rw[ih];rfl
section
variable {P:Program}{h h':AH}{e:TypeId}{size bytes n m K L:Nat}{A B:Option Addr}{cells old:List Value}
theorem iW (hl:cells.length=m*size) (hc:0<m->∃b o,B=some ⟨b,o,none⟩/\∀j u,cells[j]? = some u->ldC h b (o+j)=some u):eL h size m (.slice B m L)=some cells:=by
 unfold eL
 rcases Nat.eq_zero_or_pos m with h0 | h0
 ·subst h0
  have:cells = []:=List.eq_nil_of_length_eq_zero (by simpa using hl)
  subst this
  cases B with
  | none=>rfl
  | some a=>simp
 ·obtain⟨b,o,rfl,hc'⟩:=hc h0
  simp only
  rcases Nat.eq_zero_or_pos (m*size) with h1 | h1
  ·have:cells = []:=List.eq_nil_of_length_eq_zero (by omega)
   subst this
   rw[h1];rfl
  ·have hb:Nat.beq (m*size) 0=false:=by
    cases hb:Nat.beq (m*size) 0 with
    | false=>rfl
    | true=>have:=aq hb;omega
   rw[hb]
   simp only[cond_false]
   have:=jt (h:=h) (b:=b) (o:=o) hl h1 hc'
   unfold ldN at this
   unfold iM
   cases hca:aS h b with
   | none=>rw[hca]at this;cases this
   | some t=>rw[hca]at this;exact this
theorem bi (hT:tyB P e size bytes=true):∃i,P.info? e=some i/\i.size=size/\i.bytes=bytes/\0<size/\bytes<1000000/\Nat.beq i.size 0=false/\Nat.blt i.bytes 1000000=true/\fq i=true:=by
 unfold tyB at hT
 cases hi:P.info? e with
 | none=>rw[hi]at hT;cases hT
 | some i=>
  rw[hi]at hT
  simp only[Bool.and_eq_true,Bool.not_eq_true']at hT
  obtain⟨⟨⟨⟨h1,h2⟩,h3⟩,h4⟩,h5⟩:=hT
  have e1:=aq h1
  have e2:=aq h2
  refine⟨i,rfl,e1,e2,?_,?_,h3,h4,h5⟩
  ·rcases Nat.eq_zero_or_pos size with h0 | h0
   ·rw[e1,h0]at h3;cases h3
   ·exact h0
  ·rw[<-e2];exact Nat.le_of_ble_eq_true h4
theorem vV {i:TypeInfo}(h1:i.size=size) (h2:i.bytes=bytes) (h6:Nat.beq i.size 0=false) (h7:Nat.blt i.bytes 1000000=true) (h8:fq i=true) (hl:cells.length=m*size) (hf:∀u∈cells,flat u=true) (hb:(n+m)*bytes<70000000000000) (hn:n+m<70000000000000) :
  wC h e i A n K m cells=cond (Nat.ble (n+m) (K / 2)) (mw h i.size A n K m cells) (eY h e i.size A n K m cells):=by
 unfold wC
 have b1:Nat.blt ((n+m)*i.bytes) 70000000000000=true:=by rw[h2];exact Nat.ble_eq_true_of_le hb
 have b2:Nat.blt (n+m) 70000000000000=true:=Nat.ble_eq_true_of_le hn
 have b3:Nat.beq cells.length (m*i.size)=true:=by rw[h1,hl];exact Nat.beq_refl _
 rw[nP hf,b1,b2,b3,h6,h7,h8]
 rfl
theorem kc (hT:tyB P e size bytes=true) (hl:cells.length=m*size) (hf:∀u∈cells,flat u=true) (hc:0<m->∃b o,B=some ⟨b,o,none⟩/\∀j u,cells[j]? = some u->ldC h b (o+j)=some u) (hb:(n+m)*bytes<70000000000000) (hn:n+m<70000000000000) :
  ai P h (some (.slice e)) (some (.slice e)) (.slice A n K) (.slice B m L)=cond (Nat.ble (n+m) (K / 2)) (mw h size A n K m cells) (eY h e size A n K m cells):=by
 obtain⟨i,hi,h1,h2,h3,h4,h6,h7,h8⟩:=bi hT
 have hx:=iW (L:=L) hl hc
 unfold ai
 simp only[hi]
 have hsrc:my h i.size (.slice B m L)=some (m,cells):=by
  unfold my
  show(match eL h i.size m (.slice B m L) with | some l=>some (m,l) | none=>none)=_
  rw[h1,hx]
 show lV i e h (.slice A n K) (my h i.size (.slice B m L))=_
 rw[hsrc]
 show wC h e i A n K m cells=_
 rw[vV h1 h2 h6 h7 h8 hl hf hb hn,h1]
end
def af:Option Addr->Nat->Prop
 | some a,b=>b=a.block
 | none,_=>False
end Eva
end
section
open Go Go.RowKit
namespace Eva
def al {α:Type}(r:Rc α) (h:AH) (D:Nat->Prop) (e:TypeId) (A:Option Addr) (n K:Nat) (xs:List α):Prop:=
 xs.length=n/\((A=none/\n=0/\K=0)\/∃g cells,A=some ⟨g,0,none⟩/\D g/\g<h.next/\h.get g=some (.cells cells e false)/\cells.length=n*r.size/\(K=cl n\/K=2*n)/\(∀u∈cells,flat u=true)/\
  ∀k x,xs[k]? = some x->r.rel (λb=>D b/\b≠g) h ((cells.drop (k*r.size)).take r.size) x)
section
variable {α:Type}{r:Rc α}{h h':AH}{D:Nat->Prop}{e:TypeId}{A:Option Addr}{n K:Nat}{xs:List α}
theorem al.nil (r:Rc α) (h:AH) (D:Nat->Prop) (e:TypeId):al r h D e none 0 0 []:=⟨rfl,.inl ⟨rfl,rfl,rfl⟩⟩
theorem al.len (o:al r h D e A n K xs):xs.length=n:=o.1
theorem al.lt (o:al r h D e A n K xs){b:Nat}(hb:af A b):D b/\b<h.next:=by
 rcases o.2 with⟨rfl,_,_⟩ | ⟨g,cells,rfl,h1,h2,_⟩
 ·exact hb.elim
 ·have:b=g:=hb;subst this;exact⟨h1,h2⟩
theorem al.keep (o:al r h D e A n K xs) (hk:∀b,D b->b<h.next->h'.get b=h.get b) (hn:h.next<=h'.next):al r h' D e A n K xs:=by
 obtain⟨hl,o⟩:=o
 refine⟨hl,?_⟩
 rcases o with o | ⟨g,cells,rfl,h1,h2,h3,h4,h5,h6,h7⟩
 ·exact .inl o
 ·exact .inr ⟨g,cells,rfl,h1,Nat.lt_of_lt_of_le h2 hn,(hk g h1 h2).trans h3,h4,h5,h6,λk x hx=>r.keep (λb hb hlt=>hk b hb.1 hlt) hn (h7 k x hx)⟩
theorem al.nw (o:al r h D e A n K xs) (a:Nw h h'):al r h' D e A n K xs:=o.keep (λb _ hb=>a.get b hb) a.next
theorem al.off (o:al r h D e A n K xs){S:Nat->Prop}(a:Mt S h h') (hS:∀b,D b->b<h.next->¬S b):al r h' D e A n K xs:=o.keep (λb h1 hb=>a.get b hb (hS b h1 hb)) a.next
theorem al.sa (o:al r h D e A n K xs):Sa r D h A n K xs:=by
 obtain⟨hl,o⟩:=o
 rcases o with⟨rfl,rfl,rfl⟩ | ⟨g,cells,rfl,h1,h2,h3,h4,h5,h6,h7⟩
 ·exact⟨hl,.inl ⟨rfl,rfl,rfl⟩,λh=>absurd h (by omega)⟩
 ·exact Sa.of_bk h3 hl h1 h2 λk x hx=>r.mono (λb hb _=>hb.1) (h7 k x hx)
theorem al.spot (o:al r h D e A n K xs):aZ (.slice A n K):=by
 rcases o.2 with⟨rfl,_,_⟩ | ⟨g,cells,rfl,_⟩
 ·trivial
 ·rfl
theorem al.lit {g:Nat}{cells:List Value}(hg:h.get g=some (.cells cells e false)) (h1:D g) (h2:g<h.next) (hl:xs.length=n) (h4:cells.length=n*r.size) (hf:∀u∈cells,flat u=true) (hx:∀k x,xs[k]? = some x->r.rel (λb=>D b/\b≠g) h ((cells.drop (k*r.size)).take r.size) x):al r h D e (some ⟨g,0,none⟩) n (2*n) xs:=
 ⟨hl,.inr ⟨g,cells,rfl,h1,h2,hg,h4,.inr rfl,hf,hx⟩⟩
variable {P:Program}{bytes:Nat}
theorem uM (hT:tyB P e r.size bytes=true) (o:al r h D e A n K xs){F:Nat->Prop}{B:Option Addr}{m L:Nat}{zs:List α}(hz:Sz r F h B m L zs) (hF:∀cs x,r.rel F h cs x->r.rel (λb=>D b/\¬af A b) h cs x) (hb:(n+m)*bytes<70000000000000) (hn:n+m<70000000000000) (hbase:D h.next) :
  ∃A' K' h',ai P h (some (.slice e)) (some (.slice e)) (.slice A n K) (.slice B m L)=some (.slice A' (n+m) K',h')/\al r h' D e A' (n+m) K' (xs ++ zs)/\Mt (af A) h h'/\(∀b,af A' b->af A b\/h.next<=b):=by
 obtain⟨hl,ho⟩:=o
 rcases Nat.eq_zero_or_pos m with h0 | h0
 ·subst h0
  have hzs:zs = []:=List.eq_nil_of_length_eq_zero hz.len
  subst hzs
  have hap:=kc (P:=P) (h:=h) (A:=A) (K:=K) (L:=L) (B:=B) (n:=n) (m:=0) (cells:=[]) hT (by simp) (by simp) (λh=>absurd h (by omega)) hb hn
  rw[List.append_nil]
  have hle:n<=K / 2:=by
   rcases ho with⟨_,h1,h2⟩ | ⟨g,cells,_,_,_,_,_,hK,_⟩
   ·omega
   ·rcases hK with hK | hK
    ·unfold cl at hK;omega
    ·omega
  have hble:Nat.ble (n+0) (K / 2)=true:=Nat.ble_eq_true_of_le hle
  refine⟨A,K,h,?_,⟨hl,ho⟩,Mt.refl _ _,λb hb=>.inl hb⟩
  rw[hap,hble]
  simp only[cond_true]
  unfold mw
  rcases ho with⟨rfl,rfl,rfl⟩ | ⟨g,cells,rfl,_⟩
  ·rfl
  ·rfl
 ·obtain⟨b,ob,cells,rfl,hFb,hblt,hcl,hcc,hcf,hcr⟩:=hz.cells h0
  have hap:=kc (P:=P) (h:=h) (A:=A) (K:=K) (L:=L) (B:=some ⟨b,ob,none⟩) (n:=n) (m:=m) (cells:=cells) hT hcl hcf (λ_=>⟨b,ob,rfl,hcc⟩) hb hn
  have hnle:Nat.ble (n+m) (K / 2)=false:=by
   have:¬n+m<=K / 2:=by
    rcases ho with⟨_,h1,h2⟩ | ⟨g,cells,_,_,_,_,_,hK,_⟩
    ·omega
    ·rcases hK with hK | hK
     ·unfold cl at hK;omega
     ·omega
   cases hb:Nat.ble (n+m) (K / 2) with
   | false=>rfl
   | true=>exact absurd (Nat.le_of_ble_eq_true hb) this
  rw[hnle]at hap
  simp only[cond_false]at hap
  rcases ho with⟨rfl,rfl,rfl⟩ | ⟨g,old,rfl,g1,g2,g3,g4,gK,g5,g6⟩
  ·have hout:eY h e r.size none 0 0 m cells=some (lF m (cl m) h.next,h.new (.cells cells e false)):=rfl
   have hxs:xs = []:=List.eq_nil_of_length_eq_zero hl
   subst hxs
   rw[hout]at hap
   obtain⟨k1,k2,k3⟩:=aj (h:=h) (ao:=.cells cells e false) rfl
   refine⟨some ⟨h.next,0,none⟩,cl (0+m),h.new (.cells cells e false),by rw[hap,Nat.zero_add];rfl,⟨by rw[List.nil_append,hz.len,Nat.zero_add],.inr ⟨h.next,cells,rfl,hbase,by rw[k3];omega,k2,by rw[Nat.zero_add];exact hcl,.inl rfl,hcf,λk x hx=>?_⟩⟩,.of k1,λb hb=>.inr (by have:b=h.next:=hb;omega)⟩
   have h9:=hF _ _ (hcr k x hx)
   have q1:r.rel (λc=>D c/\c<h.next) h ((cells.drop (k*r.size)).take r.size) x:=r.mono (λc hc hlt=>⟨hc.1,hlt⟩) h9
   exact r.mono (λc hc _=>⟨hc.1,by omega⟩) (r.keep (λc hc hlt=>k1.get c hlt) k1.next q1)
  ·have hcut:mg old 0 (n*r.size)=some old:=by
    rw[rm (by omega)]
    simp[<-g4]
   have hcell:aS h g=some (old,e,false):=by unfold aS;rw[g3]
   obtain⟨h2,hh2,hget⟩:∃h2,eY h e r.size (some ⟨g,0,none⟩) n K m cells=some (lF (n+m) (cl (n+m)) h.next,h2.new (.cells (old ++ cells) e false))/\(h2=h\/h2=h.del g):=by
    unfold eY
    simp only[hcell,hcut]
    cases hpar:Nat.beq (K % 2) 0 with
    | true=>exact⟨h,rfl,.inl rfl⟩
    | false=>
     refine⟨h.del g,?_,.inr rfl⟩
     simp only[cond_false,Nat.beq_refl,Bool.not_false,Bool.and_self,cond_true]
   have hn2:h2.next=h.next:=by rcases hget with rfl | rfl <;>rfl
   have hg2:∀c,c≠g->h2.get c=h.get c:=λc hc=>by
    rcases hget with rfl | rfl
    ·rfl
    ·rw[get_del,if_neg hc]
   rw[hh2]at hap
   have hgn:∀c,c≠g->c<h.next->(h2.new (.cells (old ++ cells) e false)).get c=h.get c:=λc hc hlt=>by
    rw[get_new,if_neg (by omega)];exact hg2 c hc
   refine⟨some ⟨h.next,0,none⟩,cl (n+m),_,hap,⟨by rw[List.length_append,hl,hz.len],.inr ⟨h.next,old ++ cells,rfl,hbase,by rw[fK];omega,by rw[get_new,hn2,if_pos rfl],by rw[List.length_append,g4,hcl,Nat.add_mul],.inl rfl,λu hu=>?_,λk x hx=>?_⟩⟩,⟨by rw[fK];omega,λc hc hs=>hgn c (λe=>hs e) hc⟩,λc hc=>.inr (by have:c=h.next:=hc;omega)⟩
   ·rcases List.mem_append.1 hu with hu | hu
    ·exact g5 u hu
    ·exact hcf u hu
   ·have turn:∀{G:Nat->Prop}{cs:List Value}{x:α},(∀c,G c->c<h.next->D c/\c≠g)->r.rel G h cs x->r.rel (λc=>D c/\c≠h.next) (h2.new (.cells (old ++ cells) e false)) cs x:=by
     intro G cs x hG hr
     have q1:r.rel (λc=>(D c/\c≠g)/\c<h.next) h cs x:=r.mono (λc hc hlt=>⟨hG c hc hlt,hlt⟩) hr
     have q2:=r.keep (h':=h2.new (.cells (old ++ cells) e false)) (λc hc hlt=>hgn c hc.1.2 hlt) (by rw[fK];omega) q1
     exact r.mono (λc hc _=>⟨hc.1.1,by omega⟩) q2
    have hsz:∀j,j<n->j*r.size+r.size<=old.length:=λj hj=>by
     rw[g4,<-Nat.succ_mul]
     exact Nat.mul_le_mul_right _ hj
    rw[List.getElem?_append]at hx
    split at hx
    ·rename_i hlt
     have h4:=hsz k (by omega)
     rw[List.drop_append_of_le_length (by omega),List.take_append_of_le_length (by simp;omega)]
     exact turn (λc hc _=>hc) (g6 k x hx)
    ·rename_i hge
     have h5:k*r.size=old.length+(k - n)*r.size:=by
      rw[g4,<-Nat.add_mul,Nat.add_sub_cancel' (by omega)]
     rw[h5,List.drop_append]
     have h6:List.drop (old.length+(k - n)*r.size) old = []:=List.drop_eq_nil_of_le (by omega)
     rw[h6,List.nil_append,Nat.add_sub_cancel_left]
     exact turn (λc hc _=>⟨hc.1,λe=>hc.2 e⟩) (hF _ _ (hcr (k - n) x (by rw[<-hl];exact hx)))
end
section
variable {α:Type}{r:Rc α}{h h':AH}{D D':Nat->Prop}{e:TypeId}{A:Option Addr}{n K:Nat}{xs:List α}{P:Program}{bytes:Nat}
theorem al.mono (o:al r h D e A n K xs) (hD:∀b,D b->b<h.next->D' b):al r h D' e A n K xs:=by
 obtain⟨hl,o⟩:=o
 refine⟨hl,?_⟩
 rcases o with o | ⟨g,cells,rfl,h1,h2,h3,h4,h5,h6,h7⟩
 ·exact .inl o
 ·exact .inr ⟨g,cells,rfl,hD g h1 h2,h2,h3,h4,h5,h6,λk x hx=>r.mono (λb hb hlt=>⟨hD b hb.1 hlt,hb.2⟩) (h7 k x hx)⟩
def nQ (r:Rc α):Prop:=∀{F G:Nat->Prop}{h h':AH}{cs:List Value}{x:α},r.rel F h cs x->r.rel G h' cs x
theorem al.lone (hr:nQ r) (o:al r h D e A n K xs):al r h (af A) e A n K xs:=by
 obtain⟨hl,o⟩:=o
 refine⟨hl,?_⟩
 rcases o with o | ⟨g,cells,rfl,h1,h2,h3,h4,h5,h6,h7⟩
 ·exact .inl o
 ·exact .inr ⟨g,cells,rfl,rfl,h2,h3,h4,h5,h6,λk x hx=>hr (h7 k x hx)⟩
theorem al.own (o:al r h D e A n K xs){b:Nat}(hb:af A b):b<h.next:=(o.lt hb).2
theorem aX (hr:nQ r) (hT:tyB P e r.size bytes=true) (o:al r h (af A) e A n K xs){F:Nat->Prop}{B:Option Addr}{m L:Nat}{zs:List α}(hz:Sz r F h B m L zs) (hb:(n+m)*bytes<70000000000000) (hn:n+m<70000000000000) :
  ∃A' K' h',ai P h (some (.slice e)) (some (.slice e)) (.slice A n K) (.slice B m L)=some (.slice A' (n+m) K',h')/\al r h' (af A') e A' (n+m) K' (xs ++ zs)/\Mt (af A) h h'/\(∀b,af A' b->af A b\/(h.next<=b/\b<h'.next)):=by
 obtain⟨A',K',h',x1,x2,x3,x4⟩:=uM (D:=λ_=>True) hT (o.mono λ_ _ _=>trivial) hz (λcs x hx=>hr hx) hb hn trivial
 exact⟨A',K',h',x1,x2.lone hr,x3,λb hb=>(x4 b hb).imp id λh=>⟨h,x2.own hb⟩⟩
theorem fL (hT:tyB P e r.size bytes=true) (o:al r h D e A n K xs){F:Nat->Prop}{B:Option Addr}{m L:Nat}{zs:List α}(hz:Sz r F h B m L zs) (hF:∀b,F b->¬af A b) (hb:(n+m)*bytes<70000000000000) (hn:n+m<70000000000000) :
  ∃A' K' h',ai P h (some (.slice e)) (some (.slice e)) (.slice A n K) (.slice B m L)=some (.slice A' (n+m) K',h')/\al r h' (λb=>D b\/F b\/b=h.next) e A' (n+m) K' (xs ++ zs)/\Mt (af A) h h'/\(∀b,af A' b->af A b\/(h.next<=b/\b<h'.next)):=by
 obtain⟨A',K',h',x1,x2,x3,x4⟩:=uM (D:=λb=>D b\/F b\/b=h.next) hT (o.mono λ_ hb _=>.inl hb) hz (λcs x hx=>r.mono (λb hb _=>⟨.inr (.inl hb),hF b hb⟩) hx) hb hn (.inr (.inr rfl))
 exact⟨A',K',h',x1,x2,x3,λb hb=>(x4 b hb).imp id λh=>⟨h,x2.own hb⟩⟩
theorem Sz.one {F:Nat->Prop}{g L:Nat}{cells:List Value}{x:α}{t:TypeId}{f:Bool}(hg:h.get g=some (.cells cells t f)) (hF:F g) (hlt:g<h.next) (hl:cells.length=r.size) (hx:r.rel F h cells x):Sz r F h (some ⟨g,0,none⟩) 1 L [x]:=
 (Sa.of_bk (r:=r) (xs:=[x]) (n:=1) (K:=L) hg rfl hF hlt λk y hy=>by
  match k,hy with
  | 0,hy=>
   injection hy with hy
   subst hy
   rw[Nat.zero_mul,List.drop_zero,List.take_of_length_le (by omega)]
   exact hx).z
theorem c9 (k:IntKind):nQ (Rc.int k):=λh=>h
theorem xD (k k':IntKind):nQ (Rc.pair k k'):=λh=>h
theorem eu (k k' k'':IntKind):nQ (Rc.tri k k' k''):=λh=>h
end
end Eva
end
section
open Go Go.RowKit
namespace Eva
section
variable {F:Nat->Prop}{h:AH}{A:Option Addr}{n K:Nat}
theorem Sz.int {xs:List Int}(hs:Sz cI F h A n K xs){k:Nat}(hk:k<n):∃b o x,A=some ⟨b,o,none⟩/\F b/\b<h.next/\xs[k]? = some x/\ldC h b (o+k)=some (.int .i64 x):=by
 obtain⟨b,o,x,cs,hA,hF,hb,hx,hc,hr⟩:=hs.get hk
 refine⟨b,o,x,hA,hF,hb,hx,?_⟩
 have hr':cs = [.int .i64 x]:=hr
 have:=hc 0 (.int .i64 x) (by rw[hr'];rfl)
 simpa[Rc.int]using this
theorem Sz.rowZ {α:Type}{r:Rc α}{xs:List (List α)}(hs:Sz (Rc.sliceZ r) F h A n K xs){k:Nat}(hk:k<n):∃b o A' n' K' x,A=some ⟨b,o,none⟩/\F b/\b<h.next/\xs[k]? = some x/\ldC h b (o+k)=some (.slice A' n' K')/\Sz r F h A' n' K' x:=by
 obtain⟨b,o,x,cs,hA,hF,hb,hx,hc,A',n',K',hcs,hs'⟩:=hs.get hk
 refine⟨b,o,A',n',K',x,hA,hF,hb,hx,?_,hs'⟩
 have:=hc 0 (.slice A' n' K') (by rw[hcs];rfl)
 simpa[Rc.sliceZ]using this
theorem Sz.tri {xs:List (Int×Int×Int)}(hs:Sz (Rc.tri .i64 .i64 .i64) F h A n K xs){k:Nat}(hk:k<n):∃b o x y z,A=some ⟨b,o,none⟩/\F b/\b<h.next/\xs[k]? = some (x,y,z)/\ldC h b (o+k*3)=some (.int .i64 x)/\ldC h b (o+k*3+1)=some (.int .i64 y)/\ldC h b (o+k*3+2)=some (.int .i64 z):=by
 obtain⟨b,o,x,cs,hA,hF,hb,hx,hc,hr⟩:=hs.get hk
 have hr':cs = [.int .i64 x.1,.int .i64 x.2.1,.int .i64 x.2.2]:=hr
 have h0:=hc 0 (.int .i64 x.1) (by rw[hr'];rfl)
 have h1:=hc 1 (.int .i64 x.2.1) (by rw[hr'];rfl)
 have h2:=hc 2 (.int .i64 x.2.2) (by rw[hr'];rfl)
 exact⟨b,o,x.1,x.2.1,x.2.2,hA,hF,hb,hx,by simpa[Rc.tri]using h0,by simpa[Rc.tri,Nat.add_assoc]using h1,by simpa[Rc.tri,Nat.add_assoc]using h2⟩
theorem Sz.tableZ {xs:List (Int×Int×List Int)}(hs:Sz Rc.tableZ F h A n K xs){k:Nat}(hk:k<n):∃b o x y A' n' K' zs,A=some ⟨b,o,none⟩/\F b/\b<h.next/\xs[k]? = some (x,y,zs)/\ldC h b (o+k*3)=some (.int .i64 x)/\ldC h b (o+k*3+1)=some (.int .i64 y)/\ldC h b (o+k*3+2)=some (.slice A' n' K')/\Sz cI F h A' n' K' zs:=by
 obtain⟨b,o,x,cs,hA,hF,hb,hx,hc,A',n',K',hr',hs'⟩:=hs.get hk
 have h0:=hc 0 (.int .i64 x.1) (by rw[hr'];rfl)
 have h1:=hc 1 (.int .i64 x.2.1) (by rw[hr'];rfl)
 have h2:=hc 2 (.slice A' n' K') (by rw[hr'];rfl)
 exact⟨b,o,x.1,x.2.1,A',n',K',x.2.2,hA,hF,hb,hx,by simpa[Rc.tableZ]using h0,by simpa[Rc.tableZ,Nat.add_assoc]using h1,by simpa[Rc.tableZ,Nat.add_assoc]using h2,hs'⟩
end
end Eva
end
section
open Go Go.RowKit
namespace Eva
abbrev aJ:Rc (Int×Int×Int):=Rc.tri .i64 .i64 .i64
abbrev cPr:Rc (Int×Int):=Rc.pair .i64 .i64
theorem ah {x:Int}(h1:-9223372036854775808<=x) (h2:x<=9223372036854775807):IntKind.i64.wrap x=x:=IntWalk.i64_in _ ⟨h1,h2⟩
structure GrA (h:AH) (Fa F:Nat->Prop) (g:Nat) (N:ab):Prop where
 own:F g/\g<h.next
 verts:∃A n K,ldC h g 0=some (.slice A n K)/\Sa aJ F h A n K N.vs
 arcs:∃A n K,ldC h g 1=some (.slice A n K)/\Sa aJ Fa h A n K N.xa
 types:∃A n K,ldC h g 2=some (.slice A n K)/\Sa Rc.table F h A n K N.ts
 ins:∃A n K,ldC h g 3=some (.slice A n K)/\Sa aY F h A n K (N.endsL false)
 outs:∃A n K,ldC h g 4=some (.slice A n K)/\Sa aY F h A n K (N.endsL true)
 pls:∃A n K,ldC h g 5=some (.slice A n K)/\Sa cPr F h A n K N.plL
 ok:N.Ok
 few:N.nv<=1000/\N.na<=1000
section
variable {h h':AH}{Fa F:Nat->Prop}{g:Nat}{N:ab}{Q:Value->AH->Prop}
theorem GrA.keep (G:GrA h Fa F g N) (hk:∀b,F b\/Fa b->b<h.next->h'.get b=h.get b) (hn:h.next<=h'.next):GrA h' Fa F g N:=by
 have hc:∀o,ldC h' g o=ldC h g o:=λo=>aW (hk g (.inl G.own.1) G.own.2) o
 have hF:∀b,F b->b<h.next->h'.get b=h.get b:=λb h=>hk b (.inl h)
 have hA:∀b,Fa b->b<h.next->h'.get b=h.get b:=λb h=>hk b (.inr h)
 refine⟨⟨G.own.1,Nat.lt_of_lt_of_le G.own.2 hn⟩,?_,?_,?_,?_,?_,?_,G.ok,G.few⟩
 ·obtain⟨A,n,c,h1,h2⟩:=G.verts;exact⟨A,n,c,(hc 0).trans h1,h2.keep hF hn⟩
 ·obtain⟨A,n,c,h1,h2⟩:=G.arcs;exact⟨A,n,c,(hc 1).trans h1,h2.keep hA hn⟩
 ·obtain⟨A,n,c,h1,h2⟩:=G.types;exact⟨A,n,c,(hc 2).trans h1,h2.keep hF hn⟩
 ·obtain⟨A,n,c,h1,h2⟩:=G.ins;exact⟨A,n,c,(hc 3).trans h1,h2.keep hF hn⟩
 ·obtain⟨A,n,c,h1,h2⟩:=G.outs;exact⟨A,n,c,(hc 4).trans h1,h2.keep hF hn⟩
 ·obtain⟨A,n,c,h1,h2⟩:=G.pls;exact⟨A,n,c,(hc 5).trans h1,h2.keep hF hn⟩
theorem GrA.nw (G:GrA h Fa F g N) (a:Nw h h'):GrA h' Fa F g N:=G.keep (λb _ hb=>a.get b hb) a.next
theorem GrA.off (G:GrA h Fa F g N){S:Nat->Prop}(a:Mt S h h') (hS:∀b,F b\/Fa b->¬S b):GrA h' Fa F g N:=G.keep (λb hb hlt=>a.get b hlt (hS b hb)) a.next
theorem Ex (G:GrA h Fa F g N) (a:Int) (K:Q (.bool (decide (0<=a/\a<N.na))) h):WC Tryz.prog 161 [.pointer (some ⟨g,0,none⟩),.int .i64 a] h Q:=by
 obtain⟨A,n,c,c1,s1⟩:=G.arcs
 have hn:N.na=n:=s1.len
 refine jR ⟨λh1=>?_,λh1=>?_⟩
 ·repeat (first | refine⟨_,_,rfl,?_⟩ | refine⟨_,_,_,(by assumption),?_⟩ | refine⟨_,(by assumption),?_⟩ | refine⟨_,rfl,?_⟩ | refine⟨(by first | assumption | omega),?_⟩ | refine⟨λhb=>?_,λhb=>absurd hb (by omega)⟩ | refine⟨λhb=>absurd hb (by omega),λhb=>?_⟩ | refine⟨λ_=>?_,λhb=>Bool.noConfusion hb⟩ | refine⟨λhb=>Bool.noConfusion hb,λ_=>?_⟩)
  refine⟨λh2=>?_,λh2=>?_⟩
  ·rwa [show decide (0<=a/\a<(N.na:Int))=true by simp;omega]at K
  ·rwa [show decide (0<=a/\a<(N.na:Int))=false by simp;omega]at K
 ·rwa [show decide (0<=a/\a<(N.na:Int))=false by simp;omega]at K
theorem pU (G:GrA h Fa F g N){a:Nat}(ha:a<N.na) (K:Q (.bool true) h):WC Tryz.prog 161 [.pointer (some ⟨g,0,none⟩),.int .i64 a] h Q:=
 Ex G a (by rwa [show decide (0<=(a:Int)/\(a:Int)<(N.na:Int))=true by simp;omega])
theorem GrA.arc_ (G:GrA h Fa F g N){a:Nat}(ha:a<N.na):∃b o n K,ldC h g 1=some (.slice (some ⟨b,o,none⟩) n K)/\a<n/\b<h.next/\Fa b/\ldC h b (o+a*3)=some (.int .i64 (N.fr a:Int))/\ldC h b (o+a*3+1)=some (.int .i64 (N.to a:Int))/\ldC h b (o+a*3+2)=some (.int .i64 (N.w a)):=by
 obtain⟨A,n,K,c1,s1⟩:=G.arcs
 have hn:N.na=n:=s1.len
 obtain⟨b,o,x,y,z,rfl,hF,hb,hx,e0,e1,e2⟩:=s1.tri (k:=a) (by omega)
 rw[N.arc_get ha]at hx
 injection hx with hx
 have h1:x=(N.fr a:Int):=by rw[<-(ab.fr_lt G.ok ha).2,hx]
 have h2:y=(N.to a:Int):=by rw[<-(ab.to_lt G.ok ha).2,hx]
 have h3:z=N.w a:=by simp[ab.w,ha,hx]
 subst h1 h2 h3
 exact⟨b,o,n,K,c1,by omega,hb,hF,e0,e1,e2⟩
theorem pV (G:GrA h Fa F g N){a:Nat}(ha:a<N.na) (K:Q (.int .i64 (N.fr a:Int)) h):WC Tryz.prog 147 [.pointer (some ⟨g,0,none⟩),.int .i64 a] h Q:=by
 obtain⟨b,o,n,c,c1,hn,-,-,e0,e1,e2⟩:=G.arc_ ha
 refine jg (pU G ha ?_)
 repeat (first | refine⟨_,_,rfl,?_⟩ | refine⟨_,_,_,(by assumption),?_⟩ | refine⟨_,(by assumption),?_⟩ | refine⟨_,rfl,?_⟩ | refine⟨(by first | assumption | omega),?_⟩ | refine⟨λhb=>?_,λhb=>absurd hb (by omega)⟩ | refine⟨λhb=>absurd hb (by omega),λhb=>?_⟩ | refine⟨λ_=>?_,λhb=>Bool.noConfusion hb⟩ | refine⟨λhb=>Bool.noConfusion hb,λ_=>?_⟩)
 exact K
theorem aTo (G:GrA h Fa F g N){a:Nat}(ha:a<N.na) (K:Q (.int .i64 (N.to a:Int)) h):WC Tryz.prog 148 [.pointer (some ⟨g,0,none⟩),.int .i64 a] h Q:=by
 obtain⟨b,o,n,c,c1,hn,-,-,e0,e1,e2⟩:=G.arc_ ha
 refine kM (pU G ha ?_)
 repeat (first | refine⟨_,_,rfl,?_⟩ | refine⟨_,_,_,(by assumption),?_⟩ | refine⟨_,(by assumption),?_⟩ | refine⟨_,rfl,?_⟩ | refine⟨(by first | assumption | omega),?_⟩ | refine⟨λhb=>?_,λhb=>absurd hb (by omega)⟩ | refine⟨λhb=>absurd hb (by omega),λhb=>?_⟩ | refine⟨λ_=>?_,λhb=>Bool.noConfusion hb⟩ | refine⟨λhb=>Bool.noConfusion hb,λ_=>?_⟩)
 exact K
theorem md (G:GrA h Fa F g N){a:Nat}(ha:a<N.na) (K:Q (.int .i64 (N.w a)) h):WC Tryz.prog 91 [.pointer (some ⟨g,0,none⟩),.int .i64 a] h Q:=by
 obtain⟨b,o,n,c,c1,hn,-,-,e0,e1,e2⟩:=G.arc_ ha
 refine gX (pU G ha ?_)
 repeat (first | refine⟨_,_,rfl,?_⟩ | refine⟨_,_,_,(by assumption),?_⟩ | refine⟨_,(by assumption),?_⟩ | refine⟨_,rfl,?_⟩ | refine⟨(by first | assumption | omega),?_⟩ | refine⟨λhb=>?_,λhb=>absurd hb (by omega)⟩ | refine⟨λhb=>absurd hb (by omega),λhb=>?_⟩ | refine⟨λ_=>?_,λhb=>Bool.noConfusion hb⟩ | refine⟨λhb=>Bool.noConfusion hb,λ_=>?_⟩)
 exact K
theorem pW (G:GrA h Fa F g N) (K:Q (.int .i64 (N.na:Int)) h):WC Tryz.prog 52 [.pointer (some ⟨g,0,none⟩)] h Q:=by
 obtain⟨A,n,c,c1,s1⟩:=G.arcs
 have hn:N.na=n:=s1.len
 refine jf ?_
 repeat (first | refine⟨_,_,rfl,?_⟩ | refine⟨_,_,_,(by assumption),?_⟩ | refine⟨_,(by assumption),?_⟩ | refine⟨_,rfl,?_⟩ | refine⟨(by first | assumption | omega),?_⟩ | refine⟨λhb=>?_,λhb=>absurd hb (by omega)⟩ | refine⟨λhb=>absurd hb (by omega),λhb=>?_⟩ | refine⟨λ_=>?_,λhb=>Bool.noConfusion hb⟩ | refine⟨λhb=>Bool.noConfusion hb,λ_=>?_⟩)
 rw[hn]at K
 exact K
theorem zw (G:GrA h Fa F g N) (K:Q (.int .i64 (N.nv:Int)) h):WC Tryz.prog 198 [.pointer (some ⟨g,0,none⟩)] h Q:=by
 obtain⟨A,n,c,c1,s1⟩:=G.verts
 have hn:N.nv=n:=s1.len
 refine iJ ?_
 repeat (first | refine⟨_,_,rfl,?_⟩ | refine⟨_,_,_,(by assumption),?_⟩ | refine⟨_,(by assumption),?_⟩ | refine⟨_,rfl,?_⟩ | refine⟨(by first | assumption | omega),?_⟩ | refine⟨λhb=>?_,λhb=>absurd hb (by omega)⟩ | refine⟨λhb=>absurd hb (by omega),λhb=>?_⟩ | refine⟨λ_=>?_,λhb=>Bool.noConfusion hb⟩ | refine⟨λhb=>Bool.noConfusion hb,λ_=>?_⟩)
 rw[hn]at K
 exact K
end
end Eva
end
section
open Go Go.RowKit
namespace Eva
theorem dK:tyB Tryz.prog 3 1 8=true:=by kernel_rfl
section
variable {h h':AH}{Fa F:Nat->Prop}{g:Nat}{N:ab}{Q:Value->AH->Prop}{A:Option Addr}{n K:Nat}{xs:List Int}
theorem Cg (hs:Sa cI F h A n K xs) (hn:n<=100000){B:Option Addr}{L:Nat}{h1:AH}(k1:Nw h h1) (hB:al cI h1 (λb=>h.next<=b) 3 B 0 L []) :
  ∃A' K' h',ai Tryz.prog h1 (some (.slice 3)) (some (.slice 3)) (.slice B 0 L) (.slice A n K)=some (.slice A' n K',h')/\Sa cI (λb=>h.next<=b) h' A' n K' xs/\Nw h h':=by
 obtain⟨A',K',h',x1,x2,x3,x4⟩:=uM (r:=cI) dK hB (hs.nw k1).z (λ_ _ h=>h) (by omega) (by omega) k1.next
 refine⟨A',K',h',by rw[Nat.zero_add]at x1;exact x1,?_,x3.is_nw k1 λb hb=>(hB.lt hb).1⟩
 have:=x2.sa
 rwa [Nat.zero_add,List.nil_append]at this
theorem CY (hs:Sa cI F h A n K xs) (hn:n<=100000) (hK:∀A' K' h',Sa cI (λb=>h.next<=b) h' A' n K' xs->Nw h h'->Q (.slice A' n K') h'):WC Tryz.prog 50 [.slice A n K] h Q:=by
 refine cY ⟨λhA=>?_,λhA=>?_⟩
 ·obtain⟨h0,h1⟩:=hs.nil0 hA
  refine⟨h0,h1,?_⟩
  subst hA h0 h1
  exact hK none 0 h ⟨hs.len,.inl ⟨rfl,rfl,rfl⟩,λh=>absurd h (by omega)⟩ (Nw.refl _)
 ·obtain⟨b,o,rfl⟩:=hs.some_ hA
  refine⟨b,o,rfl,λh1 e1=>?_⟩
  obtain⟨k1,g1,z1⟩:=aj e1
  obtain⟨A',K',h',x1,x2,x3⟩:=Cg hs hn k1 (al.lit (r:=cI) (xs:=[]) (n:=0) g1 (Nat.le_refl _) (by omega) rfl rfl (by simp) (by simp))
  exact⟨A',n,K',h',x1,hK _ _ _ x2 x3⟩
theorem CZ (G:GrA h Fa F g N){v:Nat}(hv:v<N.nv) (K:Q (.bool true) h):WC Tryz.prog 228 [.pointer (some ⟨g,0,none⟩),.int .i64 v] h Q:=by
 obtain⟨A,n,c,c1,s1⟩:=G.verts
 have hn:N.nv=n:=s1.len
 refine jj ⟨λh1=>?_,λh1=>absurd h1 (by omega)⟩
 repeat (first | refine⟨_,_,rfl,?_⟩ | refine⟨_,_,_,(by assumption),?_⟩ | refine⟨_,(by assumption),?_⟩ | refine⟨_,rfl,?_⟩ | refine⟨(by first | assumption | omega),?_⟩ | refine⟨λhb=>?_,λhb=>absurd hb (by omega)⟩ | refine⟨λhb=>absurd hb (by omega),λhb=>?_⟩ | refine⟨λ_=>?_,λhb=>Bool.noConfusion hb⟩ | refine⟨λhb=>Bool.noConfusion hb,λ_=>?_⟩)
 exact K
theorem Ch (G:GrA h Fa F g N){v:Nat}(hv:v<N.nv) (hK:∀A' K' h',Sa cI (λb=>h.next<=b) h' A' (N.from_ v).length K' (ints (N.from_ v))->Nw h h'->Q (.slice A' (N.from_ v).length K') h'):WC Tryz.prog 168 [.pointer (some ⟨g,0,none⟩),.int .i64 v] h Q:=by
 obtain⟨A,n,K,c4,s4⟩:=G.outs
 have hn:v<n:=by rw[<-s4.len];simpa[ab.endsL]using hv
 obtain⟨b,o,A1,n1,K1,x,rfl,hF,hb,hx,e1,hr⟩:=s4.row hn
 have hxe:x=ints (N.from_ v):=by
  simp[ab.endsL,hv]at hx
  rw[<-hx,ab.from_ints];rfl
 subst hxe
 have hl:(N.from_ v).length=n1:=by simpa[ints]using hr.len
 have hl2:n1<=1000:=by
  rw[<-hl]
  exact Nat.le_trans (aC _ _) G.few.2
 refine jh (CZ G hv ?_)
 refine⟨_,rfl,λ_=>?_,λh=>Bool.noConfusion h⟩
 refine⟨_,_,rfl,_,_,_,c4,_,rfl,_,_,rfl,hn,_,_,_,e1,?_⟩
 refine CY hr (by omega) λA' K' h' k1 k2=>?_
 rw[<-hl]at k1⊢
 exact⟨_,_,_,rfl,hK _ _ _ k1 k2⟩
theorem C0 {ins outs:Int}(hi:0<=ins/\ins<=16) (ho:0<=outs/\outs<=16) (K:Q .nilIface h):WC Tryz.prog 218 [.int .i64 ins,.int .i64 outs] h Q:=by
 refine jS ⟨λh=>absurd h (by omega),λ_=>?_⟩
 refine⟨λh=>absurd h (by omega),λ_=>?_⟩
 refine⟨λh=>absurd h (by omega),λ_=>?_⟩
 exact⟨λh=>absurd h (by omega),λ_=>K⟩
theorem vW {ins outs:Int}{costs:List Int}(hs:Sa cI F h A n K costs) (hok:cg ins outs costs) (i o:Nat) (hi16:i<=1000) (ho16:o<=1000) (hK:∀h',Nw h h'->Q (.int .i64 (df (ins,outs,costs) i o)) h') :
  WC Tryz.prog 149 [.agg #[.int .i64 ins,.int .i64 outs,.slice A n K],.int .i64 i,.int .i64 o] h Q:=by
 have hI:=hok.ins_
 have hO:=hok.outs_
 have hlen:=hok.len
 refine wZ λh1 e1=>?_
 obtain⟨k1,g1,z1⟩:=aj e1
 have c0:ldC h1 h.next 0=some (.int .i64 ins):=aa g1 rfl
 have c1:ldC h1 h.next 1=some (.int .i64 outs):=aa g1 rfl
 have c2:ldC h1 h.next 2=some (.slice A n K):=aa g1 rfl
 have inf:¬((i:Int)<ins/\(o:Int)<outs)->Q (.int .i64 1152921504606846976) h1:=λhno=>by
  have:=hK h1 k1
  rwa [df,if_neg hno]at this
 refine⟨λh=>absurd h (by omega),λ_=>⟨_,c0,λhb=>inf (by omega),λhb1=>⟨λh=>absurd h (by omega),λ_=>⟨_,c1,λhb=>inf (by omega),λhb2=>⟨_,c0,_,c1,?_⟩⟩⟩⟩⟩
 refine C0 hI hO ⟨none,rfl,λ_=>?_,λt u h=>by cases h⟩
 obtain⟨ins,rfl⟩:=Int.eq_ofNat_of_zero_le hI.1
 obtain⟨outs,rfl⟩:=Int.eq_ofNat_of_zero_le hO.1
 have h1':i<ins:=by omega
 have h2':o<outs:=by omega
 have hn:n=ins*outs:=by
  have:=hs.len
  have h3:((costs.length:Nat):Int)=((ins*outs:Nat):Int):=by rw[hlen];simp
  omega
 have hlt:i*outs+o<n:=by rw[hn];exact lB h1' h2'
 have hmul:i*outs<=1000*16:=Nat.mul_le_mul (by omega) (by omega)
 obtain⟨b,of,x,rfl,hF,hb,hx,e0⟩:=hs.int hlt
 have e0':=(k1.ldC hb (of+(i*outs+o))).trans e0
 obtain⟨t,ht⟩:∃t,i*outs=t:=⟨_,rfl⟩
 rw[ht]at hlt hmul e0' hx
 have w1:IntKind.i64.wrap ((i:Int)*(outs:Int))=(t:Int):=by
  rw[<-Int.natCast_mul,ht]
  exact ah (by omega) (by omega)
 have w2:IntKind.i64.wrap ((t:Int)+(o:Int))=((t+o:Nat):Int):=by rw[Int.natCast_add];exact ah (by omega) (by omega)
 refine⟨_,c1,_,w1,_,w2,_,_,_,c2,λ_=>⟨_,_,_,c2,_,rfl,_,_,rfl,hlt,_,e0',?_⟩,λh=>absurd h (by omega)⟩
 have:=hK h1 k1
 rwa [df,if_pos (show(i:Int)<(ins:Int)/\(o:Int)<(outs:Int) from ⟨by omega,by omega⟩),show(costs[i*(outs:Int).toNat+o]?)=some x by rw[Int.toNat_natCast,ht];exact hx]at this
end
end Eva
end
section
open Go Go.RowKit
namespace Eva
theorem ay {h h1:AH}{z vs:List Value}{t:TypeId}(e1:h1=AH.new h (.cells z t false)) (hl:z.length=vs.length) (hf:∀v∈vs,flat v=true) :
  ∃h2,stC h1 h.next 0 vs=some h2/\Nw h h2/\Bk h2 h.next vs t/\h2.next=h.next+1:=by
 obtain⟨k1,g1,z1⟩:=aj e1
 refine⟨_,stN (e:=t) g1 (by omega) hf,k1.put (Nat.le_refl _) _,?_,z1⟩
 rw[Bk,get_put,if_pos rfl]
 simp[hl]
theorem bI {h:AH}{b:Nat}{c vs:List Value}{t:TypeId}(hb:Bk h b c t) (hl:c.length=vs.length) (hf:∀v∈vs,flat v=true) :
  ∃h2,stC h b 0 vs=some h2/\Bk h2 b vs t/\h2.next=h.next/\∀b',b'≠b->h2.get b' = h.get b':=by
 refine⟨_,stN hb (by omega) hf,?_,rfl,λb' hb'=>by rw[get_put,if_neg hb']⟩
 rw[Bk,get_put,if_pos rfl]
 simp[hl]
theorem aA {h:AH}{b o:Nat}{c:List Value}{t:TypeId}{v:Value}(hb:Bk h b c t) (ho:o<c.length) (hf:flat v=true) :
  ∃h2,stC h b o [v]=some h2/\Bk h2 b (c.set o v) t/\h2.next=h.next/\∀b',b'≠b->h2.get b' = h.get b':=
 ⟨_,st1 hb ho hf,by rw[Bk,get_put,if_pos rfl],rfl,λb' hb'=>by rw[get_put,if_neg hb']⟩
theorem dR {a b:Value}(ha:flat a=true) (hb:flat b=true):∀v∈[a,b],flat v=true:=by simp[ha,hb]
theorem ez {a b c:Value}(ha:flat a=true) (hb:flat b=true) (hc:flat c=true):∀v∈[a,b,c],flat v=true:=by simp[ha,hb,hc]
theorem pc {h:AH}{b o:Nat}{u v:Value}(h0:ldC h b o=some u) (h1:ldC h b (o+1)=some v):ldN h b o 2=some [u,v]:=
 jt rfl (by omega) λj x hj=>by
  match j,hj with
  | 0,hj=>injection hj with hj;subst hj;exact h0
  | 1,hj=>injection hj with hj;subst hj;exact h1
theorem uN {h:AH}{b o:Nat}{u v x:Value}(h0:ldC h b o=some u) (h1:ldC h b (o+1)=some v) (h2:ldC h b (o+2)=some x):ldN h b o 3=some [u,v,x]:=
 jt rfl (by omega) λj y hj=>by
  match j,hj with
  | 0,hj=>injection hj with hj;subst hj;exact h0
  | 1,hj=>injection hj with hj;subst hj;exact h1
  | 2,hj=>injection hj with hj;subst hj;exact h2
section
variable {h h':AH}{Fa F:Nat->Prop}{g:Nat}{N:ab}{Q:Value->AH->Prop}{A:Option Addr}{n K:Nat}
theorem Ci (G:GrA h Fa F g N){a b:Nat}(ha:a<N.na) (hb:b<N.na) (hK:∀h',Nw h h'->Q (.int .i64 (N.turn a b)) h'):WC Tryz.prog 169 [.pointer (some ⟨g,0,none⟩),.int .i64 a,.int .i64 b] h Q:=by
 obtain⟨b1,o1,n1,K1,c1,hn1,l1,-,e0,e1,e2⟩:=G.arc_ ha
 obtain⟨b1',o1',n1',K1',c1',hn1',l1',-,f0,f1,f2⟩:=G.arc_ hb
 refine ji (pU G ha ⟨_,rfl,λ_=>?_,λh=>Bool.noConfusion h⟩)
 refine pU G hb ⟨_,rfl,λ_=>?_,λh=>Bool.noConfusion h⟩
 refine⟨_,_,rfl,_,_,_,c1,_,rfl,_,_,rfl,hn1,_,e1,_,_,_,c1',_,rfl,_,_,rfl,hn1',_,f0,λhab=>?_,λhab=>?_⟩
 ·have hab':N.to a=N.fr b:=by omega
  have hvt:=(ab.to_lt G.ok ha).1
  obtain⟨tok,t,vx,t1,t2,t3,t4,t5⟩:=ab.tab_ok G.ok hvt
  obtain⟨A0,n0,K0,g0,s0⟩:=G.verts
  obtain⟨A2,n2,K2,g2,s2⟩:=G.types
  obtain⟨A5,n5,K5,g5,s5⟩:=G.pls
  have hn0:N.to a<n0:=by rw[<-s0.len];exact hvt
  have hn2:vx.2.2.toNat<n2:=by rw[<-s2.len];omega
  have hn5:n5=N.na:=by rw[<-s5.len];simp[ab.plL]
  obtain⟨b0,o0,u1,u2,u3,rfl,-,q0,r2,r3,r4,r5⟩:=s0.tri hn0
  obtain⟨b2,o2,v1,v2,A',n',K',zs,rfl,-,q2,k2,k3,k4,k5,k6⟩:=s2.table hn2
  obtain⟨b5,o5,pa,pb,rfl,-,q5,j2,j3,j4⟩:=s5.pair (k:=a) (by omega)
  obtain⟨b5',o5',pa',pb',hA5,-,q5',i2,i3,i4⟩:=s5.pair (k:=b) (by omega)
  injection hA5 with hA5
  injection hA5 with hA51 hA52
  subst hA51 hA52
  rw[t1]at r2
  injection r2 with r2
  subst r2
  have hu3:(u3.toNat:Int)=u3:=Int.toNat_of_nonneg t4
  simp only at hn2 k2 k3 k4 k5
  have hpa:pa=(N.inPl a:Int):=by simp[ab.plL,ha]at j2;exact j2.1.symm
  have hpb:pb' = (N.outPl b:Int):=by simp[ab.plL,hb]at i2;exact i2.2.symm
  have htab:(v1,v2,zs)=N.tab (N.to a):=by
   simp only at t2
   rw[t2]at k2
   injection k2 with k2
   rw[<-k2,t3]
  have hi1:N.inPl a<=1000:=Nat.le_trans (fD _ _ _) (by have:=G.few.2;omega)
  have ho1:N.outPl b<=1000:=Nat.le_trans (fD _ _ _) (by have:=G.few.2;omega)
  subst hpa hpb
  refine⟨_,_,_,g0,_,_,_,c1,_,_,rfl,hn1,_,e1,_,rfl,_,_,rfl,hn0,_,_,_,uN r3 r4 r5,λh3 e3=>?_⟩
  obtain⟨h4,hs4,k4',g4,z4⟩:=ay (vs:=[.int .i64 u1,.int .i64 u2,.int .i64 u3]) e3 rfl (ez rfl rfl rfl)
  have x9:ldC h4 h.next 2=some (.int .i64 u3):=aa g4 rfl
  refine⟨h4,hs4,_,_,_,(k4'.ldC G.own.2 _).trans g2,_,x9,u3.toNat,hu3.symm,_,_,rfl,hn2,_,_,_,_,_,uN ((k4'.ldC q2 _).trans k3) ((k4'.ldC q2 _).trans k4) ((k4'.ldC q2 _).trans k5),_,_,_,(k4'.ldC G.own.2 _).trans g5,_,_,rfl,by omega,_,(k4'.ldC q5 _).trans j3,_,_,_,(k4'.ldC G.own.2 _).trans g5,_,_,rfl,by omega,_,(k4'.ldC q5 _).trans i4,?_⟩
  refine vW (k6.nw k4') (by rw[<-htab]at tok;exact tok) (N.inPl a) (N.outPl b) hi1 ho1 λh5 k5'=>⟨_,rfl,?_⟩
  have:=hK h5 (k4'.trans k5')
  rwa [ab.turn,if_pos ⟨ha,hb,hab'⟩,<-htab]at this
 ·have:=hK h (Nw.refl _)
  rwa [ab.turn,if_neg (λh=>hab (by rw[h.2.2]))]at this
theorem vX (a:Int) (hK:Q (.int .i64 (dg a)) h):WC Tryz.prog 163 [.int .i64 a] h Q:=by
 refine sJ ⟨λh1=>?_,λh1=>⟨λh2=>?_,λh2=>?_⟩⟩
 ·rwa [dg,if_pos h1]at hK
 ·rwa [dg,if_neg h1,if_pos h2]at hK
 ·rwa [dg,if_neg h1,if_neg h2]at hK
theorem DM (a b:Int) (hK:Q (.int .i64 (cM a b)) h):WC Tryz.prog 104 [.int .i64 a,.int .i64 b] h Q:=by
 have h1:=fH a
 have h2:=fH b
 exact ux (vX _ ⟨_,rfl,vX _ ⟨_,rfl,_,ah (by omega) (by omega),vX _ ⟨_,rfl,hK⟩⟩⟩)
theorem C1 (x:Int) (hK:Q (.bool false) h):WC Tryz.prog 85 [.int .i64 x] h Q:=je ⟨λ_=>hK,λh=>absurd rfl h⟩
theorem Bl (x:Int) (hK:Q (.bool false) h):WC Tryz.prog 155 [.int .i64 x] h Q:=lL ⟨λ_=>hK,λh=>absurd rfl h⟩
theorem Cj (a b:Int) (hK:Q (.bool (decide (a<b))) h):WC Tryz.prog 84 [.int .i64 a,.int .i64 b] h Q:=by
 refine nk (Bl _ ⟨_,rfl,λh=>Bool.noConfusion h,λ_=>⟨λh1=>?_,λh1=>?_⟩⟩)
 ·rwa [decide_eq_true h1]at hK
 ·rwa [decide_eq_false h1]at hK
theorem C2 {i j:Nat}(hi:i<=100000) (hj:j<=100000):IntKind.i64.wrap ((i:Int)+(j:Int))=((i+j:Nat):Int)/\IntKind.u64.wrap ((i+j:Nat):Int)=((i+j:Nat):Int)/\Int.fdiv ((i+j:Nat):Int) (2 ^ 1)=(((i+j) / 2:Nat):Int)/\IntKind.i64.wrap (((i+j) / 2:Nat):Int)=(((i+j) / 2:Nat):Int):=by
 refine⟨by rw[Int.natCast_add];exact ah (by omega) (by omega),?_,?_,ah (by omega) (by omega)⟩
 ·simp[IntKind.wrap,IntKind.bits,IntKind.signed]
  omega
 ·rw[Int.fdiv_eq_ediv_of_nonneg _ (by decide)]
  omega
theorem Bm {F:Nat->Prop}{l:List Nat}(a:Nat) (hs:Sa cI F h A n K (ints l)) (hasc:l.Pairwise (· < ·)) (hn:n<=100000) (hK:∀(i:Nat) (b:Bool),(b=true->l[i]? = some a)->(b=false->a ∉ l)->Q (.tuple #[.int .i64 i,.bool b]) h) :
  WC Tryz.prog 36 [.slice A n K,.int .i64 a] h Q:=by
 have hl:l.length=n:=by simpa[ints]using hs.len
 have hget:∀(k y:Nat),l[k]? = some y->(ints l)[k]? = some (y:Int):=λk y hy=>by simp[ints,hy]
 refine dC ⟨λm x y h1=>∃i j:Nat,x=i/\y=j/\m=j - i/\i<=j/\j<=n/\(∀(k y:Nat),k<i->l[k]? = some y->y<a)/\(∀(k y:Nat),j<=k->l[k]? = some y->a<=y)/\h1=h,n,⟨0,n,rfl,rfl,rfl,Nat.zero_le _,Nat.le_refl _,λk y h=>by omega,λk y hk hy=>by have:=(List.getElem?_eq_some_iff.1 hy).1;omega,rfl⟩,?_⟩
 rintro m x y h1 ⟨i,j,rfl,rfl,rfl,hij,hjn,ha,hb,rfl⟩
 refine⟨λhlt=>?_,λhge=>?_⟩
 ·obtain⟨w1,w2,w3,w4⟩:=C2 (i:=i) (j:=j) (by omega) (by omega)
  obtain⟨q,hq⟩:∃q,(i+j) / 2=q:=⟨_,rfl⟩
  rw[hq]at w3 w4
  have q1:i<=q:=by omega
  have q2:q<j:=by omega
  obtain⟨b,o,x,rfl,hF,hbl,hx,e0⟩:=hs.int (k:=q) (by omega)
  obtain⟨y,hy⟩:∃y,l[q]? = some y:=⟨_,List.getElem?_eq_getElem (by omega)⟩
  rw[hget q y hy]at hx
  injection hx with hx
  subst hx
  refine⟨_,w1,_,w2,_,w3,_,w4,_,rfl,_,_,rfl,by omega,_,e0,Cj _ _ ⟨_,rfl,λht=>?_,λht=>?_⟩⟩
  ·have hya:y<a:=by have:=of_decide_eq_true ht;omega
   refine⟨_,ah (by omega) (by omega),j - (q+1),by omega,q+1,j,by omega,rfl,rfl,by omega,hjn,λk z hk hz=>?_,hb,rfl⟩
   by_cases e:k=q
   ·subst e;rw[hy]at hz;injection hz with hz;omega
   ·have:=iC hasc hz hy (by omega);omega
  ·have hya:a<=y:=by have:=of_decide_eq_false ht;omega
   refine⟨q - i,by omega,i,q,rfl,rfl,rfl,q1,by omega,ha,λk z hk hz=>?_,rfl⟩
   by_cases e:k=q
   ·subst e;rw[hy]at hz;injection hz with hz;omega
   ·have:=iC hasc hy hz (by omega);omega
 ·obtain rfl:i=j:=by omega
  refine⟨λhlt=>?_,λhge2=>?_⟩
  ·obtain⟨b,o,x,rfl,hF,hbl,hx,e0⟩:=hs.int (k:=i) (by omega)
   obtain⟨y,hy⟩:∃y,l[i]? = some y:=⟨_,List.getElem?_eq_getElem (by omega)⟩
   rw[hget i y hy]at hx
   injection hx with hx
   subst hx
   refine⟨_,rfl,_,_,rfl,by omega,_,e0,λhya=>?_,λhya=>⟨by omega,_,e0,C1 _ ⟨_,rfl,λh=>Bool.noConfusion h,λ_=>?_⟩⟩⟩
   ·have:y=a:=by omega
    subst this
    exact hK i true (λ_=>hy) (λh=>Bool.noConfusion h)
   ·refine hK i false (λh=>Bool.noConfusion h) λ_ hm=>?_
    obtain⟨k,hk⟩:=List.getElem?_of_mem hm
    have g1:¬k<i:=λhk1=>by have:=ha k a hk1 hk;omega
    have g2:=hb i y (Nat.le_refl _) hy
    by_cases e:k=i
    ·subst e;rw[hy]at hk;injection hk with hk;omega
    ·have:=iC hasc hy hk (by omega);omega
  ·refine hK i false (λh=>Bool.noConfusion h) λ_ hm=>?_
   obtain⟨k,hk⟩:=List.getElem?_of_mem hm
   have hkl:=(List.getElem?_eq_some_iff.1 hk).1
   have:=ha k a (by omega) hk
   omega
theorem ie {F:Nat->Prop}{l:List Nat}(a:Nat) (hs:Sa cI F h A n K (ints l)) (hasc:l.Pairwise (· < ·)) (hn:n<=100000) (hK:Q (.int .i64 (bg l a)) h):WC Tryz.prog 12 [.slice A n K,.int .i64 a] h Q:=by
 refine qP (Bm a hs hasc hn λi b h1 h2=>⟨_,_,rfl,λhb=>?_,λhb=>?_⟩)
 ·have h1:=h1 hb
  have hm:=List.mem_of_getElem? h1
  rwa [bg,if_pos hm,gg hasc (aN hm) h1]at hK
 ·rwa [bg,if_neg (h2 hb)]at hK
end
end Eva
end
section
open Go Go.RowKit
namespace Eva
structure OvA (h:AH) (F:Nat->Prop) (o:Nat) (N:ab) (p:List (List Int)):Prop where
 own:F o/\o<h.next
 part:∃A n K,ldC h o 0=some (.slice A n K)/\Sa aY F h A n K p
 from_:∃A n K,ldC h o 1=some (.slice A n K)/\Sa cI F h A n K ((List.range N.na).map λa=>((N.fr a:Nat):Int))
 to_:∃A n K,ldC h o 2=some (.slice A n K)/\Sa cI F h A n K ((List.range N.na).map λa=>((N.to a:Nat):Int))
 gates:∃A n K,ldC h o 3=some (.slice A n K)/\Sa (Rc.slice Rc.gate) F h A n K ((List.range p.length).map λj=>N.gatesL p (j+1))
 starts:∃A n K,ldC h o 4=some (.slice A n K)/\Sa aY F h A n K ((List.range p.length).map λj=>N.startsL p (j+1))
 size:ldC h o 5=some (.int .i64 ((N.size p:Nat):Int))
 hp:ax N.nv p
 few:N.size p<=10000000
 ok:N.Ok
 nfew:N.nv<=1000/\N.na<=1000
section
variable {h h':AH}{F:Nat->Prop}{o:Nat}{N:ab}{p:List (List Int)}{Q:Value->AH->Prop}
theorem OvA.keep (O:OvA h F o N p) (hF:∀b,F b->b<h.next->h'.get b=h.get b) (hn:h.next<=h'.next):OvA h' F o N p:=by
 have hc:∀i,ldC h' o i=ldC h o i:=λi=>aW (hF o O.own.1 O.own.2) i
 refine⟨⟨O.own.1,Nat.lt_of_lt_of_le O.own.2 hn⟩,?_,?_,?_,?_,?_,(hc 5).trans O.size,O.hp,O.few,O.ok,O.nfew⟩
 ·obtain⟨A,n,c,h1,h2⟩:=O.part;exact⟨A,n,c,(hc 0).trans h1,h2.keep hF hn⟩
 ·obtain⟨A,n,c,h1,h2⟩:=O.from_;exact⟨A,n,c,(hc 1).trans h1,h2.keep hF hn⟩
 ·obtain⟨A,n,c,h1,h2⟩:=O.to_;exact⟨A,n,c,(hc 2).trans h1,h2.keep hF hn⟩
 ·obtain⟨A,n,c,h1,h2⟩:=O.gates;exact⟨A,n,c,(hc 3).trans h1,h2.keep hF hn⟩
 ·obtain⟨A,n,c,h1,h2⟩:=O.starts;exact⟨A,n,c,(hc 4).trans h1,h2.keep hF hn⟩
theorem OvA.nw (O:OvA h F o N p) (a:Nw h h'):OvA h' F o N p:=O.keep (λb _ hb=>a.get b hb) a.next
theorem OvA.off (O:OvA h F o N p){S:Nat->Prop}(a:Mt S h h') (hS:∀b,F b->¬S b):OvA h' F o N p:=O.keep (λb hb hlt=>a.get b hlt (hS b hb)) a.next
theorem OvA.gate_ (O:OvA h F o N p){k c:Nat}(hk:k<p.length) (hc:c<ap p (k+1)) :
  ∃b1 o1 n1 K1 b2 o2 K2 A3 K3 A4 K4,ldC h o 3=some (.slice (some ⟨b1,o1,none⟩) n1 K1)/\k<n1/\b1<h.next/\ldC h b1 (o1+k)=some (.slice (some ⟨b2,o2,none⟩) (ap p (k+1)) K2)/\b2<h.next/\
   ldC h b2 (o2+c*2)=some (.slice A3 (N.ins p (k+1) c).length K3)/\ldC h b2 (o2+c*2+1)=some (.slice A4 (N.outs p (k+1) c).length K4)/\Sa cI F h A3 (N.ins p (k+1) c).length K3 (ints (N.ins p (k+1) c))/\Sa cI F h A4 (N.outs p (k+1) c).length K4 (ints (N.outs p (k+1) c)):=by
 obtain⟨A1,n1,K1,g1,s1⟩:=O.gates
 have hn1:p.length=n1:=by have:=s1.len;simpa using this
 obtain⟨b1,o1,A2,n2,K2,x,rfl,-,l1,hx,e1,s2⟩:=s1.row (k:=k) (by omega)
 have hx2:x=N.gatesL p (k+1):=by simp[hk]at hx;exact hx.symm
 subst hx2
 have hn2:ap p (k+1)=n2:=by have:=s2.len;simpa[ab.gatesL]using this
 subst hn2
 obtain⟨b2,o2,A3,n3,K3,A4,n4,K4,x,y,rfl,-,l2,hy,e2,e3,s3,s4⟩:=s2.gate (k:=c) hc
 have hy2:(x,y)=(ints (N.ins p (k+1) c),ints (N.outs p (k+1) c)):=by simp[ab.gatesL,hc]at hy;rw[<-hy.1,<-hy.2]
 injection hy2 with h1 h2
 subst h1 h2
 have q3:(N.ins p (k+1) c).length=n3:=by simpa[ints]using s3.len
 have q4:(N.outs p (k+1) c).length=n4:=by simpa[ints]using s4.len
 subst q3 q4
 exact⟨b1,o1,n1,K1,b2,o2,K2,A3,K3,A4,K4,g1,by omega,l1,e1,l2,e2,e3,s3,s4⟩
theorem OvA.row_ (O:OvA h F o N p){k:Nat}(hk:k<p.length) :
  ∃b1 o1 n1 K1 A2 K2,ldC h o 4=some (.slice (some ⟨b1,o1,none⟩) n1 K1)/\n1=p.length/\b1<h.next/\ldC h b1 (o1+k)=some (.slice A2 (ap p (k+1)) K2)/\Sa cI F h A2 (ap p (k+1)) K2 (N.startsL p (k+1)):=by
 obtain⟨A1,n1,K1,g1,s1⟩:=O.starts
 have hn1:p.length=n1:=by have:=s1.len;simpa using this
 obtain⟨b1,o1,A2,n2,K2,x,rfl,-,l1,hx,e1,s2⟩:=s1.row (k:=k) (by omega)
 have hx2:x=N.startsL p (k+1):=by simp[hk]at hx;exact hx.symm
 subst hx2
 have hn2:ap p (k+1)=n2:=by have:=s2.len;simpa[ab.startsL]using this
 subst hn2
 exact⟨b1,o1,n1,K1,A2,K2,g1,hn1.symm,l1,e1,s2⟩
theorem C3 {A:Option Addr}{k n K:Nat}(hs:Sa cI F h A n K (N.startsL p k)){c:Nat}(hc:c<ap p k):∃b o,A=some ⟨b,o,none⟩/\b<h.next/\ldC h b (o+c)=some (.int .i64 ((N.start p k c:Nat):Int)):=by
 have hn:ap p k=n:=by have:=hs.len;simpa[ab.startsL]using this
 obtain⟨b,o,x,rfl,-,l,hx,e⟩:=hs.int (k:=c) (by omega)
 have:x=((N.start p k c:Nat):Int):=by simp[ab.startsL,hc]at hx;exact hx.symm
 subst this
 exact⟨b,o,rfl,l,e⟩
theorem zx (O:OvA h F o N p) (hK:Q (.int .i64 ((N.size p:Nat):Int)) h):WC Tryz.prog 39 [.pointer (some ⟨o,0,none⟩)] h Q:=kG ⟨_,_,rfl,_,O.size,hK⟩
theorem rp (O:OvA h F o N p) (hK:Q (.int .i64 (p.length:Int)) h):WC Tryz.prog 37 [.pointer (some ⟨o,0,none⟩)] h Q:=by
 obtain⟨A,n,K,c0,s⟩:=O.part
 have hn:p.length=n:=s.len
 rw[hn]at hK
 exact jd ⟨_,_,rfl,_,_,_,c0,hK⟩
theorem rq (O:OvA h F o N p){k:Nat}(hk1:1<=k) (hk:k<=p.length) (hK:Q (.int .i64 (ap p k:Int)) h):WC Tryz.prog 83 [.pointer (some ⟨o,0,none⟩),.int .i64 k] h Q:=by
 obtain⟨A1,n1,K1,g1,s1⟩:=O.gates
 have hn1:p.length=n1:=by have:=s1.len;simpa using this
 obtain⟨j,rfl⟩:∃j,k=j+1:=⟨k - 1,by omega⟩
 obtain⟨b1,o1,A2,n2,K2,x,rfl,-,l1,hx,e1,s2⟩:=s1.row (k:=j) (by omega)
 have hlt:j<p.length:=by omega
 have hx2:x=N.gatesL p (j+1):=by simp[hlt]at hx;exact hx.symm
 subst hx2
 have hn2:ap p (j+1)=n2:=by have:=s2.len;simpa[ab.gatesL]using this
 subst hn2
 have hp6:=O.hp.few
 refine jO ⟨λh=>absurd h (by omega),λ_=>?_⟩
 refine⟨_,_,rfl,_,_,_,g1,λh=>absurd h (by omega),λ_=>?_⟩
 exact⟨_,_,_,g1,_,ah (by omega) (by omega),j,by omega,_,_,rfl,by omega,_,_,_,e1,hK⟩
theorem xE (O:OvA h F o N p){k c:Nat}(hk1:1<=k) (hk:k<=p.length) (hc:c<ap p k) (hK:Q (.bool true) h):WC Tryz.prog 34 [.pointer (some ⟨o,0,none⟩),.int .i64 k,.int .i64 c] h Q:=
 lH ⟨λ_=>rq O hk1 hk ⟨_,rfl,λ_=>hK,λh=>absurd h (by omega)⟩,λh=>absurd h (by omega)⟩
theorem uO {A:Option Addr}{n K:Nat}{xs:List Int}(hs:Sa cI F h A n K xs) (hn:n<=100000) (hK:∀A' K' h',Sa cI (λb=>h.next<=b) h' A' n K' xs->Nw h h'->Q (.slice A' n K') h'):WC Tryz.prog 35 [.slice A n K] h Q:=by
 obtain⟨A',K',h',x1,x2,x3⟩:=Cg hs hn (Nw.refl h) (al.nil cI h (λb=>h.next<=b) _)
 exact qO ⟨A',n,K',h',x1,hK _ _ _ x2 x3⟩
theorem tj (O:OvA h F o N p){k c:Nat}(hk1:1<=k) (hk:k<=p.length) (hc:c<ap p k)
  (hK:∀A K B L h',Sa cI (λb=>h.next<=b) h' A (N.ins p k c).length K (ints (N.ins p k c))->Sa cI (λb=>h.next<=b) h' B (N.outs p k c).length L (ints (N.outs p k c))->Nw h h'->Q (.agg #[.slice A (N.ins p k c).length K,.slice B (N.outs p k c).length L]) h') :
  WC Tryz.prog 10 [.pointer (some ⟨o,0,none⟩),.int .i64 k,.int .i64 c] h Q:=by
 obtain⟨k,rfl⟩:∃k',k=k' + 1:=⟨k - 1,by omega⟩
 have hp6:=O.hp.few
 have hna:=O.nfew.2
 refine kH λh1 e1=>?_
 obtain⟨k1,g1,z1⟩:=aj e1
 have O1:=O.nw k1
 obtain⟨b1,o1,n1,K1,b2,o2,K2,A3,K3,A4,K4,c3,hkn,l1,e2,l2,e3,e4,s3,s4⟩:=O1.gate_ (k:=k) (by omega) hc
 have hi3:(N.ins p (k+1) c).length<=1000:=Nat.le_trans (aC _ _) hna
 have hi4:(N.outs p (k+1) c).length<=1000:=Nat.le_trans (aC _ _) hna
 obtain⟨ni,hni⟩:∃ni,(N.ins p (k+1) c).length=ni:=⟨_,rfl⟩
 obtain⟨no,hno⟩:∃no,(N.outs p (k+1) c).length=no:=⟨_,rfl⟩
 rw[hni]at e3 s3 hi3 hK
 rw[hno]at e4 s4 hi4 hK
 refine xE O1 hk1 hk hc ⟨_,rfl,λ_=>?_,λh=>Bool.noConfusion h⟩
 refine⟨_,_,rfl,_,_,_,c3,_,ah (by omega) (by omega),k,by omega,_,_,rfl,hkn,_,_,_,e2,c,rfl,_,_,rfl,hc,_,_,_,_,_,_,pc e3 e4,λh3 e5=>?_⟩
 obtain⟨h4,hs4,k4,g4,z4⟩:=ay (vs:=[.slice A3 ni K3,.slice A4 no K4]) e5 rfl (dR rfl rfl)
 have y0:ldC h4 h1.next 0=some (.slice A3 ni K3):=aa g4 rfl
 have y1:ldC h4 h1.next 1=some (.slice A4 no K4):=aa g4 rfl
 refine⟨h4,hs4,_,_,_,y0,_,_,_,y1,uO (s3.nw k4) (by omega) λA5 K5 h5 s5 k5=>⟨_,_,_,rfl,(k5.ldC (by omega) _).trans y1,(s4.eqok),?_⟩⟩
 refine uO (s4.nw (k4.trans k5)) (by omega) λA6 K6 h6 s6 k6=>⟨_,_,_,rfl,?_⟩
 have hz4:h4.next=h.next+2:=by omega
 have k6':Nw h1 h6:=(k4.trans k5).trans k6
 have g6:Bk h6 h.next [.slice none 0 0,.slice none 0 0] 46:=k6'.bk (by omega) g1
 have n5:=k5.next
 have n6:=k6.next
 obtain⟨h7,hs7,g7,z7,hot⟩:=bI (vs:=[.slice A5 ni K5,.slice A6 no K6]) g6 rfl (dR rfl rfl)
 refine⟨h7,hs7,_,_,_,_,_,_,bY g7 (by simp),?_⟩
 have hMt:Mt (λb=>b=h.next) h6 h7:=⟨by omega,λb _ hb=>hot b hb⟩
 refine hK _ _ _ _ _ ?_ ?_ (hMt.is_nw (k1.trans k6') (λb hb=>by omega))
 ·exact(((s5.nw k6).off hMt (λb hb e=>by omega)).mono λb hb _=>by omega)
 ·exact((s6.off hMt (λb hb e=>by omega)).mono λb hb _=>by omega)
theorem oAt (O:OvA h F o N p){k c i j:Nat}(hk1:1<=k) (hk:k<=p.length) (hc:c<ap p k) (hi:i<(N.ins p k c).length) (hj:j<(N.outs p k c).length)
  (hK:∀h',Nw h h'->Q (.int .i64 ((N.start p k c+(i*(N.outs p k c).length+j):Nat):Int)) h'):WC Tryz.prog 11 [.pointer (some ⟨o,0,none⟩),.int .i64 k,.int .i64 c,.int .i64 i,.int .i64 j] h Q:=by
 have hse:=ab.start_end (N:=N) hk1 hk hc
 have hpl:=lB hi hj
 have hfw:=O.few
 unfold ab.sz at hse
 obtain⟨k,rfl⟩:∃k',k=k' + 1:=⟨k - 1,by omega⟩
 have hp6:=O.hp.few
 obtain⟨b1,o1,n1,K1,b2,o2,K2,A3,K3,A4,K4,c3,hkn,l1,e2,l2,e3,e4,s3,s4⟩:=O.gate_ (k:=k) (by omega) hc
 obtain⟨b5,o5,n5,K5,A6,K6,c4,hn5,l5,e5,s6⟩:=O.row_ (k:=k) (by omega)
 obtain⟨b6,o6,rfl,l6,e6⟩:=C3 s6 hc
 obtain⟨ni,hni⟩:∃ni,(N.ins p (k+1) c).length=ni:=⟨_,rfl⟩
 obtain⟨no,hno⟩:∃no,(N.outs p (k+1) c).length=no:=⟨_,rfl⟩
 rw[hni]at e3 s3 hi hpl hse
 rw[hno]at e4 s4 hj hK hpl hse
 refine bU (xE O hk1 hk hc ⟨_,rfl,λ_=>?_,λh=>Bool.noConfusion h⟩)
 refine⟨_,_,rfl,_,_,_,c3,_,ah (by omega) (by omega),k,by omega,_,_,rfl,hkn,_,_,_,e2,c,rfl,_,_,rfl,hc,_,_,_,_,_,_,pc e3 e4,λh2 e7=>?_⟩
 obtain⟨h3,hs3,k3,g3,z3⟩:=ay (vs:=[.slice A3 ni K3,.slice A4 no K4]) e7 rfl (dR rfl rfl)
 have y0:ldC h3 h.next 0=some (.slice A3 ni K3):=aa g3 rfl
 have y1:ldC h3 h.next 1=some (.slice A4 no K4):=aa g3 rfl
 obtain⟨t,ht⟩:∃t,i*no=t:=⟨_,rfl⟩
 rw[ht]at hpl hK
 have w1:IntKind.i64.wrap ((i:Int)*(no:Int))=(t:Int):=by rw[<-Int.natCast_mul,ht];exact ah (by omega) (by omega)
 have w2:IntKind.i64.wrap (((N.start p (k+1) c:Nat):Int)+(t:Int))=((N.start p (k+1) c+t:Nat):Int):=by rw[Int.natCast_add];exact ah (by omega) (by omega)
 have w3:IntKind.i64.wrap (((N.start p (k+1) c+t:Nat):Int)+(j:Int))=((N.start p (k+1) c+(t+j):Nat):Int):=by rw[<-Nat.add_assoc,Int.natCast_add _ j];exact ah (by omega) (by omega)
 refine⟨h3,hs3,λh=>absurd h (by omega),λ_=>⟨_,_,_,y0,λh=>absurd h (by omega),λ_=>⟨λh=>absurd h (by omega),λ_=>⟨_,_,_,y1,λh=>absurd h (by omega),λ_=>?_⟩⟩⟩⟩
 exact⟨_,_,_,(k3.ldC O.own.2 _).trans c4,_,ah (by omega) (by omega),k,by omega,_,_,rfl,by omega,_,_,_,(k3.ldC l5 _).trans e5,_,_,rfl,hc,_,(k3.ldC l6 _).trans e6,_,_,_,y1,_,w1,_,w2,_,w3,hK _ k3⟩
end
end Eva
end
section
open Go Go.RowKit
namespace Eva
theorem iH {h:AH}{b k:Nat}{xs:List Int}{x:Int}{t:TypeId}(hb:Bk h b (xs.map (Value.int .i64)) t) (hx:xs[k]? = some x):ldC h b (0+k)=some (.int .i64 x):=by
 rw[aP hb,Nat.zero_add]
 simp[hx]
theorem cH {h:AH}{b k:Nat}{xs:List Int}{t:TypeId}(hb:Bk h b (xs.map (Value.int .i64)) t) (hk:k<xs.length) (x:Int) :
  ∃h2,stC h b (0+k) [.int .i64 x]=some h2/\Bk h2 b ((xs.set k x).map (Value.int .i64)) t/\h2.next=h.next/\∀b',b'≠b->h2.get b' = h.get b':=by
 obtain⟨h2,h1,h3,h4,h5⟩:=aA (v:=.int .i64 x) hb (o:=0+k) (by simpa using hk) rfl
 refine⟨h2,h1,?_,h4,h5⟩
 rw[Nat.zero_add,<-List.map_set]at h3
 exact h3
def bK (h:AH) (A:Option Addr) (n K:Nat) (xs:List Int):Prop:=
 xs.length=n/\((A=none/\n=0/\K=0)\/∃g c rest,A=some ⟨g,0,none⟩/\g<h.next/\K=cl c/\0<c/\rest.length+n=c/\Bk h g (xs.map (Value.int .i64) ++ rest) 3)
section
variable {h h':AH}{A:Option Addr}{n K:Nat}{xs:List Int}
theorem bK.keep (o:bK h A n K xs) (hk:∀b,af A b->b<h.next->h'.get b=h.get b) (hn:h.next<=h'.next):bK h' A n K xs:=by
 obtain⟨hl,o⟩:=o
 refine⟨hl,?_⟩
 rcases o with o | ⟨g,c,rest,rfl,h1,h2,h3,h4,h5⟩
 ·exact .inl o
 ·exact .inr ⟨g,c,rest,rfl,Nat.lt_of_lt_of_le h1 hn,h2,h3,h4,(hk g rfl h1).trans h5⟩
theorem bK.read (o:bK h A n K xs){i:Nat}{x:Int}(hx:xs[i]? = some x):∃g,A=some ⟨g,0,none⟩/\g<h.next/\i<n/\ldC h g (0+i)=some (.int .i64 x):=by
 obtain⟨hl,o⟩:=o
 have hi:=(List.getElem?_eq_some_iff.1 hx).1
 rcases o with⟨_,h1,_⟩ | ⟨g,c,rest,rfl,h1,h2,h3,h4,h5⟩
 ·omega
 ·refine⟨g,rfl,h1,by omega,?_⟩
  rw[aP h5,Nat.zero_add,List.getElem?_append_left (by simpa using hi)]
  simp[hx]
theorem bK.store {g:Nat}(o:bK h (some ⟨g,0,none⟩) n K xs){i:Nat}(hi:i<n) (x:Int):∃h1,stC h g (0+i) [.int .i64 x]=some h1/\bK h1 (some ⟨g,0,none⟩) n K (xs.set i x)/\h1.next=h.next/\∀b,b≠g->h1.get b=h.get b:=by
 obtain⟨hl,o⟩:=o
 rcases o with⟨h0,_,_⟩ | ⟨g',c,rest,hA,h1,h2,h3,h4,h5⟩
 ·cases h0
 ·injection hA with hA
  injection hA with hA
  subst hA
  obtain⟨hh,q1,q2,q3,q4⟩:=aA (v:=.int .i64 x) h5 (o:=0+i) (by simp;omega) rfl
  refine⟨hh,q1,⟨by simp[hl],.inr ⟨g,c,rest,rfl,by omega,h2,h3,h4,?_⟩⟩,q3,q4⟩
  rw[Nat.zero_add,List.set_append_left _ _ (by simp;omega),<-List.map_set]at q2
  exact q2
theorem bK.cut (o:bK h A n K xs){m:Nat}(hm:m<=n) (hA:0<n):bK h A m K (xs.take m)/\aE Tryz.prog 3 A n K none (some m) none=some (.slice A m K):=by
 obtain⟨hl,o⟩:=o
 rcases o with⟨_,h1,_⟩ | ⟨g,c,rest,rfl,h1,h2,h3,h4,h5⟩
 ·omega
 ·refine⟨⟨by simp;omega,.inr ⟨g,c,(xs.drop m).map (Value.int .i64) ++ rest,rfl,h1,h2,h3,by simp;omega,?_⟩⟩,?_⟩
  ·rw[<-List.append_assoc,<-List.map_append,List.take_append_drop]
   exact h5
  ·obtain⟨i,hi,hsz⟩:∃i,Tryz.prog.info? 3=some i/\i.size=1:=by
    obtain⟨i,q1,q2,-⟩:=bi dK
    exact⟨i,q1,q2⟩
   unfold aE
   rw[hi]
   have hc2:K / 2=c:=by rw[h2];unfold cl;omega
   have hp:Nat.beq (K % 2) 0=false:=by
    have:K % 2=1:=by rw[h2];unfold cl;omega
    rw[this];rfl
   have hb1:Nat.ble m (K / 2)=true:=Nat.ble_eq_true_of_le (by omega)
   have hb0:Nat.ble 0 m=true:=Nat.ble_eq_true_of_le (Nat.zero_le _)
   have hlt:Nat.blt 0 (K / 2)=true:=Nat.ble_eq_true_of_le (by omega)
   show cond (Option.isNone (none:Option Nat) || Option.isSome (some m)) (cw i.size (some ⟨g,0,none⟩) n K ((none:Option Nat).getD 0) (some m) none) none=_
   simp only[Option.isNone_none,Bool.true_or,cond_true,Option.getD_none]
   unfold cw
   simp only[Option.getD_some,hb1,hb0,Bool.and_self,cond_true,hp,cond_false]
   unfold mj
   rw[hlt]
   simp only[cond_true,Nat.sub_zero,Nat.zero_mul,Option.map_some]
   rw[hc2,h2]
   rfl
theorem bK.app (o:bK h A n K xs){B L:Nat}{x:Int}(hB:ldC h B 0=some (.int .i64 x)) (hn:n<100000) :
  ∃A' K' h1,ai Tryz.prog h (some (.slice 3)) (some (.slice 3)) (.slice A n K) (.slice (some ⟨B,0,none⟩) 1 L)=some (.slice A' (n+1) K',h1)/\bK h1 A' (n+1) K' (xs ++ [x])/\h.next<=h1.next/\(∀b,b<h.next->¬af A b->h1.get b=h.get b)/\(∀b,af A' b->af A b\/(h.next<=b/\b<h1.next)):=by
 obtain⟨hl,o⟩:=o
 have hap:=kc (P:=Tryz.prog) (h:=h) (e:=3) (size:=1) (bytes:=8) (A:=A) (K:=K) (L:=L) (B:=some ⟨B,0,none⟩) (n:=n) (m:=1) (cells:=[.int .i64 x]) dK rfl (by simp[flat]) (λ_=>⟨B,0,rfl,λj u hj=>by
  match j,hj with
  | 0,hj=>injection hj with hj;subst hj;exact hB⟩) (by omega) (by omega)
 rcases o with⟨rfl,rfl,rfl⟩ | ⟨g,c,rest,rfl,h1,h2,h3,h4,h5⟩
 ·have hxs:xs = []:=List.eq_nil_of_length_eq_zero hl
  subst hxs
  obtain⟨k1,k2,k3⟩:=aj (h:=h) (ao:=.cells [.int .i64 x] 3 false) rfl
  refine⟨some ⟨h.next,0,none⟩,cl 1,_,hap,⟨rfl,.inr ⟨h.next,1,[],rfl,by rw[k3];omega,rfl,by omega,rfl,k2⟩⟩,k1.next,λb hb _=>k1.get b hb,λb hb=>.inr ?_⟩
  have:b=h.next:=hb
  rw[k3];omega
 ·by_cases hroom:n+1<=c
  ·have hble:Nat.ble (n+1) (K / 2)=true:=Nat.ble_eq_true_of_le (by rw[h2];unfold cl;omega)
   rw[hble]at hap
   simp only[cond_true]at hap
   obtain⟨hh,q1,q2,q3,q4⟩:=aA (v:=.int .i64 x) h5 (o:=n) (by simp;omega) rfl
   have hadd:(⟨g,0,none⟩:Addr).add (n*1)=⟨g,n,none⟩:=by
    rw[Nat.mul_one]
    unfold Addr.add
    split
    ·rename_i h0;subst h0;rfl
    ·simp
   have hst:cL h ((⟨g,0,none⟩:Addr).add (n*1)) [.int .i64 x]=some hh:=by rw[hadd];exact q1
   refine⟨some ⟨g,0,none⟩,K,hh,?_,⟨by simp[hl],.inr ⟨g,c,rest.drop 1,rfl,by omega,h2,h3,by simp;omega,?_⟩⟩,by omega,λb hb hne=>q4 b (λe=>hne e),λb hb=>.inl hb⟩
   ·rw[hap]
    unfold mw
    simp only[show Nat.beq 1 0=false from rfl,cond_false,hst]
   ·obtain⟨r0,rs,hr⟩:∃r0 rs,rest=r0 :: rs:=by
     cases hrest:rest with
     | nil=>rw[hrest]at h4;simp at h4;omega
     | cons a l=>exact⟨a,l,rfl⟩
    subst hr
    rw[List.set_append_right _ _ (by simp;omega)]at q2
    have hz:n - (xs.map (Value.int .i64)).length=0:=by simp;omega
    rw[hz]at q2
    simpa using q2
  ·have hnc:n=c:=by omega
   have hnle:Nat.ble (n+1) (K / 2)=false:=by
    cases hb:Nat.ble (n+1) (K / 2) with
    | false=>rfl
    | true=>have:=Nat.le_of_ble_eq_true hb;rw[h2]at this;unfold cl at this;omega
   rw[hnle]at hap
   simp only[cond_false]at hap
   have hrest:rest = []:=List.eq_nil_of_length_eq_zero (by omega)
   subst hrest
   rw[List.append_nil]at h5
   have hcell:aS h g=some (xs.map (Value.int .i64),3,false):=by unfold aS;rw[h5]
   have hcut:mg (xs.map (Value.int .i64)) 0 (n*1)=some (xs.map (Value.int .i64)):=by
    rw[rm (by simp;omega)]
    rw[List.drop_zero,List.take_of_length_le (by simp;omega)]
   have hp:Nat.beq (K % 2) 0=false:=by
    have:K % 2=1:=by rw[h2];unfold cl;omega
    rw[this];rfl
   have hout:eY h 3 1 (some ⟨g,0,none⟩) n K 1 [.int .i64 x]=some (lF (n+1) (cl (n+1)) h.next,(h.del g).new (.cells (xs.map (Value.int .i64) ++ [.int .i64 x]) 3 false)):=by
    unfold eY
    simp only[hcell,hcut,hp,cond_false,Nat.beq_refl,Bool.not_false,Bool.and_self,cond_true]
   rw[hout]at hap
   refine⟨some ⟨h.next,0,none⟩,cl (n+1),_,hap,⟨by simp[hl],.inr ⟨h.next,n+1,[],rfl,by rw[fK,ic];omega,rfl,by omega,by simp,?_⟩⟩,by rw[fK,ic];omega,λb hb hne=>?_,λb hb=>.inr ?_⟩
   ·rw[Bk,get_new,ic,if_pos rfl]
    simp
   ·have hbg:b≠g:=λe=>hne e
    rw[get_new,ic,if_neg (by omega),get_del,if_neg hbg]
   ·have:b=h.next:=hb
    rw[fK,ic];omega
end
structure bq (h:AH) (S:Nat->Prop) (hp N:Nat) (row:List Nat) (costs:List Int) (A:Option Addr) (K Bc Bs:Nat) (seats:List Int):Prop where
 blk:Bk h hp [.slice A row.length K,.slice (some ⟨Bc,0,none⟩) N (cx N),.slice (some ⟨Bs,0,none⟩) N (cx N)] 281
 bc:Bk h Bc (costs.map (Value.int .i64)) 2
 bs:Bk h Bs (seats.map (Value.int .i64)) 3
 own:bK h A row.length K (dG row)
 lt3:hp<h.next/\Bc<h.next/\Bs<h.next
 inS:S hp/\S Bc/\S Bs
 ne:hp≠Bc/\hp≠Bs/\Bc≠Bs
 far:∀g,af A g->S g/\g≠hp/\g≠Bc/\g≠Bs
 cl:costs.length=N
 nN:N<=16384
 lt:∀k∈row,k<N
 nodup:row.Nodup
 cbd:∀c∈costs,0<=c/\c<=1152921504606846976
 seat:gh N row seats
section
variable {h h':AH}{S:Nat->Prop}{hp N:Nat}{row:List Nat}{costs:List Int}{A:Option Addr}{K Bc Bs:Nat}{seats:List Int}{Q:Value->AH->Prop}
theorem bq.few (H:bq h S hp N row costs A K Bc Bs seats):row.length<=N:=iD H.nodup H.lt
theorem bq.keep (H:bq h S hp N row costs A K Bc Bs seats) (hk:∀b,S b->b<h.next->h'.get b=h.get b) (hn:h.next<=h'.next):bq h' S hp N row costs A K Bc Bs seats:=
 ⟨(hk _ H.inS.1 H.lt3.1).trans H.blk,(hk _ H.inS.2.1 H.lt3.2.1).trans H.bc,(hk _ H.inS.2.2 H.lt3.2.2).trans H.bs,H.own.keep (λb hb hlt=>hk b (H.far b hb).1 hlt) hn,
  ⟨Nat.lt_of_lt_of_le H.lt3.1 hn,Nat.lt_of_lt_of_le H.lt3.2.1 hn,Nat.lt_of_lt_of_le H.lt3.2.2 hn⟩,H.inS,H.ne,H.far,H.cl,H.nN,H.lt,H.nodup,H.cbd,H.seat⟩
theorem bq.cost (H:bq h S hp N row costs A K Bc Bs seats){k:Nat}(hk:k<N):∃c,costs[k]? = some c/\ldC h Bc (0+k)=some (.int .i64 c)/\0<=c/\c<=1152921504606846976:=by
 have hl:k<costs.length:=by rw[H.cl];exact hk
 have h1:costs[k]? = some costs[k]:=List.getElem?_eq_getElem hl
 exact⟨costs[k],h1,iH H.bc h1,H.cbd _ (List.getElem_mem hl)⟩
theorem bq.seatAt (H:bq h S hp N row costs A K Bc Bs seats){k:Nat}(hk:k<N):∃s,seats[k]? = some s/\ldC h Bs (0+k)=some (.int .i64 s):=by
 have hl:k<seats.length:=by rw[H.seat.1];exact hk
 have h1:seats[k]? = some seats[k]:=List.getElem?_eq_getElem hl
 exact⟨seats[k],h1,iH H.bs h1⟩
theorem bq.c0 (H:bq h S hp N row costs A K Bc Bs seats):ldC h hp 0=some (.slice A row.length K):=aa H.blk rfl
theorem bq.c1 (H:bq h S hp N row costs A K Bc Bs seats):ldC h hp 1=some (.slice (some ⟨Bc,0,none⟩) N (cx N)):=aa H.blk rfl
theorem bq.c2 (H:bq h S hp N row costs A K Bc Bs seats):ldC h hp 2=some (.slice (some ⟨Bs,0,none⟩) N (cx N)):=aa H.blk rfl
theorem Ey (H:bq h S hp N row costs A K Bc Bs seats){k:Nat}(hk:k<N) (hK:Q (.bool true) h):WC Tryz.prog 162 [.pointer (some ⟨hp,0,none⟩),.int .i64 k] h Q:=
 lK ⟨λ_=>⟨_,_,rfl,_,_,_,H.c2,λ_=>hK,λh=>absurd h (by omega)⟩,λh=>absurd h (by omega)⟩
theorem zy {i j a b:Nat}(H:bq h S hp N row costs A K Bc Bs seats) (hi:row[i]? = some a) (hj:row[j]? = some b) (hK:Q (.bool (js costs a b)) h):WC Tryz.prog 227 [.pointer (some ⟨hp,0,none⟩),.int .i64 i,.int .i64 j] h Q:=by
 obtain⟨g,rfl,hg,hil,e0⟩:=H.own.read (cQ hi)
 obtain⟨g',hA,-,hjl,f0⟩:=H.own.read (cQ hj)
 injection hA with hA
 injection hA with hA
 subst hA
 have ha:=H.lt a (List.mem_of_getElem? hi)
 have hb:=H.lt b (List.mem_of_getElem? hj)
 obtain⟨x,hx,x0,-,-⟩:=H.cost ha
 obtain⟨y,hy,y0,-,-⟩:=H.cost hb
 have hq:js costs a b=decide (x<y\/(x=y/\a<b)):=by simp[js,List.getD_eq_getElem?_getD,hx,hy]
 rw[hq]at hK
 refine jQ ⟨_,_,rfl,_,_,_,H.c0,_,rfl,_,_,rfl,hil,_,e0,_,_,_,H.c0,_,rfl,_,_,rfl,hjl,_,f0,_,_,_,H.c1,_,rfl,_,_,rfl,ha,_,x0,_,_,_,H.c1,_,rfl,_,_,rfl,hb,_,y0,λhxy=>⟨λhab=>?_,λhab=>?_⟩,λhxy=>⟨_,_,_,H.c1,_,_,rfl,ha,_,x0,_,_,_,H.c1,_,_,rfl,hb,_,y0,λhlt=>?_,λhlt=>?_⟩⟩
 ·rwa [decide_eq_true (.inr ⟨hxy,by omega⟩)]at hK
 ·rwa [decide_eq_false (by omega)]at hK
 ·rwa [decide_eq_true (.inl hlt)]at hK
 ·rwa [decide_eq_false (by omega)]at hK
theorem zz {i j a b:Nat}(H:bq h S hp N row costs A K Bc Bs seats) (hi:row[i]? = some a) (hj:row[j]? = some b)
  (hK:∀h',bq h' S hp N (swL row i j) costs A K Bc Bs ((seats.set b ((i:Int)+1)).set a ((j:Int)+1))->Mt S h h'->h'.next=h.next->Q (.tuple #[]) h'):WC Tryz.prog 165 [.pointer (some ⟨hp,0,none⟩),.int .i64 i,.int .i64 j] h Q:=by
 obtain⟨g,rfl,hg,hil,e0⟩:=H.own.read (cQ hi)
 obtain⟨g',hA,-,hjl,f0⟩:=H.own.read (cQ hj)
 injection hA with hA
 injection hA with hA
 subst hA
 have ha:=H.lt a (List.mem_of_getElem? hi)
 have hb:=H.lt b (List.mem_of_getElem? hj)
 have hN:=H.nN
 have hfw:=H.few
 obtain⟨hgS,gn1,gn2,gn3⟩:=H.far g rfl
 obtain⟨n1,n2,n3⟩:=H.ne
 obtain⟨h1,s1,o1,z1,k1⟩:=H.own.store hil (b:Int)
 obtain⟨h2,s2,o2,z2,k2⟩:=o1.store hjl (a:Int)
 have b2:∀c,c≠g->h2.get c=h.get c:=λc hc=>(k2 c hc).trans (k1 c hc)
 have y2:ldC h2 hp 2=some (.slice (some ⟨Bs,0,none⟩) N (cx N)):=(aW (b2 hp (Ne.symm gn1)) _).trans H.c2
 have y0:ldC h2 hp 0=some (.slice (some ⟨g,0,none⟩) row.length K):=(aW (b2 hp (Ne.symm gn1)) _).trans H.c0
 have hrow:((dG row).set i (b:Int)).set j (a:Int)=dG (swL row i j):=by
  rw[pM,pM,swL]
  simp[List.getD_eq_getElem?_getD,hi,hj]
 rw[hrow]at o2
 have hsw:=λx=>c8 hil hjl x
 have hnewi:(swL row i j)[i]? = some b:=by rw[hsw,if_pos rfl,hj]
 have hnewj:(swL row i j)[j]? = some a:=by
  rw[hsw]
  by_cases e:j=i
  ·subst e;rw[if_pos rfl];exact hi
  ·rw[if_neg e,if_pos rfl,hi]
 obtain⟨q,hq,-,-,x0⟩:=o2.read (cQ hnewi)
 injection hq with hq
 injection hq with hq
 subst hq
 have bs2:Bk h2 Bs (seats.map (Value.int .i64)) 3:=(b2 Bs (Ne.symm gn3)).trans H.bs
 have hsl:=H.seat.1
 obtain⟨h3,s3,c3,z3,k3⟩:=cH bs2 (k:=b) (by omega) ((i:Int)+1)
 have o3:bK h3 (some ⟨g,0,none⟩) row.length K (dG (swL row i j)):=o2.keep (λc hc _=>k3 c (by have:c=g:=hc;omega)) (by omega)
 obtain⟨q,hq,-,-,x1⟩:=o3.read (cQ hnewj)
 injection hq with hq
 injection hq with hq
 subst hq
 have y2':ldC h3 hp 2=some (.slice (some ⟨Bs,0,none⟩) N (cx N)):=(aW (k3 hp n2) _).trans y2
 have y0':ldC h3 hp 0=some (.slice (some ⟨g,0,none⟩) row.length K):=(aW (k3 hp n2) _).trans y0
 obtain⟨h4,s4,c4,z4,k4⟩:=cH c3 (k:=a) (by rw[List.length_set];omega) ((j:Int)+1)
 have oth:∀c,c≠g->c≠Bs->h4.get c=h.get c:=λc h1 h2=>((k4 c h2).trans (k3 c h2)).trans (b2 c h1)
 have hl9:(swL row i j).length=row.length:=iE _ _ _
 refine kL ⟨_,_,rfl,_,_,_,H.c0,_,_,_,H.c0,_,_,_,H.c0,_,rfl,_,_,rfl,hjl,_,f0,_,_,_,H.c0,_,rfl,_,_,rfl,hil,_,e0,_,_,rfl,hil,h1,s1,_,_,rfl,hjl,h2,s2,_,_,_,y2,_,_,_,y0,_,_,rfl,hil,_,x0,_,ah (by omega) (by omega),_,rfl,_,_,rfl,hb,h3,s3,_,_,_,y2',_,_,_,y0',_,_,rfl,hjl,_,x1,_,ah (by omega) (by omega),_,rfl,_,_,rfl,ha,h4,s4,?_⟩
 refine hK h4 ⟨?_,(oth Bc (Ne.symm gn2) n3).trans H.bc,c4,?_,⟨by have:=H.lt3;omega,by have:=H.lt3;omega,by have:=H.lt3;omega⟩,H.inS,H.ne,H.far,H.cl,H.nN,λk hk=>H.lt k ((jY hil hjl k).1 hk),xq hil hjl H.nodup,H.cbd,zb H.seat H.nodup H.lt hi hj⟩ ⟨by omega,λc _ hc=>oth c (λe=>hc (e ▸ hgS)) (λe=>hc (e ▸ H.inS.2.2))⟩ (by omega)
 ·rw[hl9];exact(oth hp (Ne.symm gn1) n2).trans H.blk
 ·rw[hl9];exact o3.keep (λc hc _=>k4 c (by have:c=g:=hc;omega)) (by omega)
end
end Eva
end
section
open Go Go.RowKit
namespace Eva
section
variable {h h':AH}{S:Nat->Prop}{hp N:Nat}{row:List Nat}{costs:List Int}{A:Option Addr}{K Bc Bs:Nat}{seats:List Int}{Q:Value->AH->Prop}
theorem DO {k:Nat}(hk:0<k) (hk2:k<=100000):IntKind.i64.wrap ((k:Int) - 1)=(k:Int) - 1/\IntKind.i64.wrap (Int.tdiv ((k:Int) - 1) 2)=(((k - 1) / 2:Nat):Int):=by
 have:Int.tdiv ((k:Int) - 1) 2=(((k - 1) / 2:Nat):Int):=by
  rw[Int.tdiv_eq_ediv_of_nonneg (by omega)]
  omega
 exact⟨ah (by omega) (by omega),by rw[this];exact ah (by omega) (by omega)⟩
theorem hUp {i:Nat}(H:bq h S hp N row costs A K Bc Bs seats) (hi:i<row.length) (hu:UpR (cOf costs) (rOf row) row.length i)
  (hK:∀h' row' seats',bq h' S hp N row' costs A K Bc Bs seats'->row'.length=row.length->(∀k,k∈row'↔k∈row)->dQ (cOf costs) (rOf row') row'.length->Mt S h h'->h'.next=h.next->Q (.tuple #[]) h') :
  WC Tryz.prog 164 [.pointer (some ⟨hp,0,none⟩),.int .i64 i] h Q:=by
 have hN:=H.nN
 have hf:=H.few
 refine nh ⟨λm x h1=>∃(k:Nat) (row':List Nat) (seats':List Int),x=k/\m=k/\k<row.length/\bq h1 S hp N row' costs A K Bc Bs seats'/\row'.length=row.length/\(∀k,k∈row'↔k∈row)/\UpR (cOf costs) (rOf row') row'.length k/\Mt S h h1/\h1.next=h.next,i,⟨i,row,seats,rfl,rfl,hi,H,rfl,λ_=>Iff.rfl,hu,Mt.refl _ _,rfl⟩,?_⟩
 rintro m x h1 ⟨k,row',seats',rfl,hmk,hk,H1,hl,hm,hu,hmt,hz⟩
 subst m
 refine⟨λhk0=>?_,λhk0=>?_⟩
 ·obtain⟨w1,w2⟩:=DO (k:=k) (by omega) (by omega)
  obtain⟨p,hpp⟩:∃p,(k - 1) / 2=p:=⟨_,rfl⟩
  rw[hpp]at w2
  have hpk:p<k:=by omega
  obtain⟨a,ha⟩:∃a,row'[k]? = some a:=⟨_,List.getElem?_eq_getElem (by omega)⟩
  obtain⟨b,hb⟩:∃b,row'[p]? = some b:=⟨_,List.getElem?_eq_getElem (by omega)⟩
  refine⟨_,w1,_,w2,zy H1 ha hb ⟨_,rfl,λht=>⟨_,w1,_,w2,zz H1 ha hb λh2 H2 m2 z2=>⟨rfl,_,w1,_,w2,p,hpk,p,_,_,rfl,rfl,by omega,H2,?_,λx=>?_,?_,hmt.then m2,by omega⟩⟩,λht=>?_⟩⟩
  ·rw[iE];exact hl
  ·rw[jY (by omega) (by omega)];exact hm x
  ·rw[uH (by omega) (by omega),iE,<-hpp]
   refine hu.step (by omega) (by omega) ?_
   rw[hpp,cj ha,cj hb]
   exact pN ht
  ·refine hK h1 row' seats' H1 hl hm (hu.done (.inr ?_)) hmt hz
   rw[hpp,cj ha,cj hb]
   exact sX ht
 ·exact hK h1 row' seats' H1 hl hm (hu.done (.inl (by omega))) hmt hz
theorem DP (H:bq h S hp N row costs A K Bc Bs seats) (hu:fG (cOf costs) (rOf row) row.length 0)
  (hK:∀h' row' seats',bq h' S hp N row' costs A K Bc Bs seats'->row'.length=row.length->(∀k,k∈row'↔k∈row)->dQ (cOf costs) (rOf row') row'.length->Mt S h h'->h'.next=h.next->Q (.tuple #[]) h') :
  WC Tryz.prog 166 [.pointer (some ⟨hp,0,none⟩),.int .i64 0] h Q:=by
 have hN:=H.nN
 have hf:=H.few
 refine kK ⟨λm x h1=>∃(k:Nat) (row':List Nat) (seats':List Int),x=k/\m=row.length - k/\(k<row.length\/k=0)/\bq h1 S hp N row' costs A K Bc Bs seats'/\row'.length=row.length/\(∀k,k∈row'↔k∈row)/\fG (cOf costs) (rOf row') row'.length k/\Mt S h h1/\h1.next=h.next,row.length,⟨0,row,seats,rfl,rfl,.inr rfl,H,rfl,λ_=>Iff.rfl,hu,Mt.refl _ _,rfl⟩,?_⟩
 rintro m x h1 ⟨k,row',seats',rfl,rfl,hk,H1,hl,hm,hu,hmt,hz⟩
 have hk9:k<=16384:=by rcases hk with h | h <;>omega
 have w0:IntKind.i64.wrap (2*(k:Int))=2*(k:Int):=ah (by omega) (by omega)
 have w1:IntKind.i64.wrap (2*(k:Int)+1)=((2*k+1:Nat):Int):=by rw[show(2*(k:Int)+1)=((2*k+1:Nat):Int) by omega];exact ah (by omega) (by omega)
 have w2:IntKind.i64.wrap (2*(k:Int)+2)=2*(k:Int)+2:=ah (by omega) (by omega)
 refine⟨_,w0,_,w1,λm x y h2=>∃(q j:Nat),x=q/\y=j/\m=2*k+3 - j/\2*k+1<=j/\j<=2*k+3/\dw (cOf costs) (rOf row') row'.length k j q/\h2=h1,2,⟨k,2*k+1,rfl,rfl,by omega,by omega,by omega,dw.start _ _ _ _,rfl⟩,?_⟩
 rintro m x y h2 ⟨q,j,rfl,rfl,rfl,hj1,hj2,hL,rfl⟩
 have fin:(2*k+2<j\/row'.length<=j)->(((q:Nat):Int)=(k:Int)->Q (.tuple #[]) h2)/\(¬(((q:Nat):Int)=(k:Int))->WC Tryz.prog 165 [.pointer (some ⟨hp,0,none⟩),.int .i64 (k:Int),.int .i64 (q:Int)] h2 (λv2 h4=>v2 = .tuple #[]/\∃m':Nat,m' < row.length - k/\∃(k':Nat) (row'':List Nat) (seats'':List Int),((q:Nat):Int)=k'/\m' = row.length - k'/\(k' < row.length\/k' = 0)/\bq h4 S hp N row'' costs A K Bc Bs seats''/\row''.length=row.length/\(∀k,k∈row''↔k∈row)/\fG (cOf costs) (rOf row'') row''.length k'/\Mt S h h4/\h4.next=h.next)):=by
  intro hend
  have hkids:∀x,0<x->x<row'.length->(x - 1) / 2=k->HLe (cOf costs) (rOf row' q) (rOf row' x):=λx h0 hx hxk=>hL.kid x (by omega) (by omega) hx
  refine⟨λe=>?_,λe=>?_⟩
  ·have:q=k:=by omega
   subst this
   exact hK h2 row' seats' H1 hl hm (hu.done hkids) hmt hz
  ·rcases hL.who with e' | ⟨e1,e2,e3,e4⟩
   ·exact absurd e' (by omega)
   ·obtain⟨a,ha⟩:∃a,row'[k]? = some a:=⟨_,List.getElem?_eq_getElem (by omega)⟩
    obtain⟨b,hb⟩:∃b,row'[q]? = some b:=⟨_,List.getElem?_eq_getElem e4⟩
    refine zz H1 ha hb λh4 H4 m4 z4=>⟨rfl,row.length - q,by omega,q,_,_,rfl,rfl,.inl (by omega),H4,by rw[iE];exact hl,λx=>by rw[jY (by omega) (by omega)];exact hm x,?_,hmt.then m4,by omega⟩
    rw[uH (by omega) (by omega),iE]
    exact hu.step (by omega) (by omega) e4 hL.own hkids
 have c0:=H1.c0
 rw[hl]at c0
 refine⟨_,w0,_,w2,λhc=>⟨_,_,rfl,_,_,_,c0,λhjn=>?_,λhjn=>fin (.inr (by omega))⟩,λhc=>fin (.inl (by omega))⟩
 obtain⟨a,ha⟩:∃a,row'[j]? = some a:=⟨_,List.getElem?_eq_getElem (by omega)⟩
 have hq:q<row'.length:=by
  rcases hL.who with e | e
  ·omega
  ·exact e.2.2.2
 obtain⟨b,hb⟩:∃b,row'[q]? = some b:=⟨_,List.getElem?_eq_getElem hq⟩
 have wj:IntKind.i64.wrap ((j:Int)+1)=((j+1:Nat):Int):=by rw[Int.natCast_add];exact ah (by omega) (by omega)
 refine zy H1 ha hb ⟨_,rfl,λht=>⟨_,wj,2*k+3 - (j+1),by omega,j,j+1,rfl,rfl,rfl,by omega,by omega,hL.yes hj1 (by omega) (by omega) ?_,rfl⟩,λht=>⟨_,wj,2*k+3 - (j+1),by omega,q,j+1,rfl,rfl,rfl,by omega,by omega,hL.no ?_,rfl⟩⟩
 ·rw[cj ha,cj hb];exact pN ht
 ·rw[cj ha,cj hb];exact sX ht
def bh (h:AH) (S:Nat->Prop) (hp N:Nat) (q:Nat->Option Nat):Prop:=
 ∃row costs A K Bc Bs seats,bq h S hp N row costs A K Bc Bs seats/\dQ (cOf costs) (rOf row) row.length/\QIs row costs q/\∀b,S b->b<h.next
theorem bh.keep {q:Nat->Option Nat}(H:bh h S hp N q) (hk:∀b,S b->b<h.next->h'.get b=h.get b) (hn:h.next<=h'.next):bh h' S hp N q:=by
 obtain⟨row,costs,A,K,Bc,Bs,seats,h1,h2,h3,h4⟩:=H
 exact⟨row,costs,A,K,Bc,Bs,seats,h1.keep hk hn,h2,h3,λb hb=>Nat.lt_of_lt_of_le (h4 b hb) hn⟩
theorem bh.nw {q:Nat->Option Nat}(H:bh h S hp N q) (a:Nw h h'):bh h' S hp N q:=H.keep (λb _ hb=>a.get b hb) a.next
theorem bh.off {q:Nat->Option Nat}(H:bh h S hp N q){S':Nat->Prop}(a:Mt S' h h') (hS:∀b,S b->¬S' b):bh h' S hp N q:=H.keep (λb hb hlt=>a.get b hlt (hS b hb)) a.next
theorem DQ (n:Nat) (hn:n<=16384) (hK:∀h' S' hp,bh h' S' hp n (λ_=>none)->Nw h h'->(∀b,S' b->h.next<=b)->Q (.pointer (some ⟨hp,0,none⟩)) h'):WC Tryz.prog 88 [.int .i64 n] h Q:=by
 refine uw ⟨n,by rw[if_neg (by omega)],n,by rw[if_neg (by omega)],n,rfl,by omega,λh1 e1=>⟨by omega,λh2 e2 h3 e3=>?_⟩⟩
 obtain⟨k1,g1,z1⟩:=aj e1
 obtain⟨k2,g2,z2⟩:=aj e2
 obtain⟨k3,g3,z3⟩:=aj e3
 have hrep:rep n [Value.int .i64 0]=(List.replicate n (0:Int)).map (Value.int .i64):=by rw[a9,List.map_replicate]
 rw[hrep]at g1 g2
 refine hK h3 (λb=>b=h.next\/b=h1.next\/b=h2.next) h2.next ⟨[],List.replicate n 0,none,0,h.next,h1.next,List.replicate n 0,⟨g3,k3.bk (by omega) (k2.bk (by omega) g1),k3.bk (by omega) g2,⟨rfl,.inl ⟨rfl,rfl,rfl⟩⟩,⟨by omega,by omega,by omega⟩,⟨.inr (.inr rfl),.inl rfl,.inr (.inl rfl)⟩,⟨by omega,by omega,by omega⟩,(λg hg=>hg.elim),by simp,hn,by simp,by simp,λc hc=>?_,by simp,λk hk=>.inr ⟨by simp,by simp[hk]⟩⟩,λj h1 h2=>by simp at h2,λk=>by simp,λb hb=>by rcases hb with hb | hb | hb <;>omega⟩ ((k1.trans k2).trans k3) (λb hb=>by rcases hb with hb | hb | hb <;>omega)
 have:=List.eq_of_mem_replicate hc
 omega
theorem Bn {q:Nat->Option Nat}{k:Nat}{c:Int}(H:bh h S hp N q) (hk:k<N) (hc0:0<=c) (hc1:c<=1152921504606846976)
  (hK:∀h' S',bh h' S' hp N (ia q k c.toNat)->Mt S h h'->(∀b,S' b->S b\/(h.next<=b/\b<h'.next))->Q (.bool (eV q k c.toNat)) h'):WC Tryz.prog 92 [.pointer (some ⟨hp,0,none⟩),.int .i64 k,.int .i64 c] h Q:=by
 obtain⟨row,costs,A,K,Bc,Bs,seats,H1,HR,HQ,HS⟩:=H
 have hN:=H1.nN
 have hf:=H1.few
 have hcl:=H1.cl
 have hsl:=H1.seat.1
 obtain⟨x,hx,x0,hx0,hx1⟩:=H1.cost hk
 obtain⟨s,hs,s0⟩:=H1.seatAt hk
 have hxc:cOf costs k=x:=by simp[cOf,List.getD_eq_getElem?_getD,hx]
 refine lI (Ey H1 hk ⟨_,rfl,λ_=>?_,λh=>Bool.noConfusion h⟩)
 refine vX c ⟨_,rfl,?_⟩
 rw[bX hc0 hc1]
 refine⟨λh3=>∃(row1:List Nat) (A1:Option Addr) (K1:Nat) (seats1:List Int) (S1:Nat->Prop) (p:Nat),bq h3 S1 hp N row1 costs A1 K1 Bc Bs seats1/\row1[p]? = some k/\seats1[k]? = some ((p:Int)+1)/\UpR (cOf (costs.set k c)) (rOf row1) row1.length p/\Mt S h h3/\(∀b,S1 b->S b\/(h.next<=b/\b<h3.next))/\
  (∀row2,(∀y,y∈row2↔y∈row1)->QIs row2 (costs.set k c) (ia q k c.toNat)/\eV q k c.toNat=true),?_,?_⟩
 ·rintro h3 ⟨row1,A1,K1,seats1,S1,p,H3,hp1,hs1,hu,hmt,hS1,hQ⟩
  obtain⟨h4,q1,q2,q3,q4⟩:=cH H3.bc (k:=k) (by omega) c
  have n3:=H3.ne
  have H4:bq h4 S1 hp N row1 (costs.set k c) A1 K1 Bc Bs seats1:=⟨(q4 hp n3.1).trans H3.blk,q2,(q4 Bs (Ne.symm n3.2.2)).trans H3.bs,H3.own.keep (λb hb _=>q4 b (H3.far b hb).2.2.1) (by omega),⟨by have:=H3.lt3;omega,by have:=H3.lt3;omega,by have:=H3.lt3;omega⟩,H3.inS,H3.ne,H3.far,by rw[List.length_set];exact hcl,hN,H3.lt,H3.nodup,λy hy=>by
   rcases List.mem_or_eq_of_mem_set hy with hy | rfl
   ·exact H3.cbd y hy
   ·exact⟨hc0,hc1⟩,H3.seat⟩
  have hpl:=(List.getElem?_eq_some_iff.1 hp1).1
  refine⟨_,_,rfl,_,_,_,H3.c1,_,rfl,_,_,rfl,hk,h4,q1,_,_,_,H4.c2,_,_,rfl,hk,_,iH H4.bs hs1,_,ah (by have:=H3.few;omega) (by have:=H3.few;omega),?_⟩
  rw[show((p:Int)+1 - 1)=(p:Int) by omega]
  refine hUp H4 hpl hu λh5 row2 seats2 H5 l5 m5 r5 mt5 z5=>⟨rfl,?_⟩
  obtain⟨g1,g2⟩:=hQ row2 m5
  have hmt5:Mt S h h5:=(hmt.trans (S':=S1) ⟨by omega,λb _ hb=>q4 b (λe=>hb (e ▸ H3.inS.2.1))⟩ (λb hb hlt=>(hS1 b hb).elim id (λh=>by omega))).trans mt5 (λb hb hlt=>(hS1 b hb).elim id (λh=>by omega))
  have:=hK h5 S1 ⟨row2,costs.set k c,A1,K1,Bc,Bs,seats2,H5,r5,g1,λb hb=>by
   rcases hS1 b hb with h1 | h1
   ·have:=HS b h1;have:=hmt5.next;omega
   ·omega⟩ hmt5 (λb hb=>(hS1 b hb).imp id λh=>⟨h.1,by omega⟩)
  rwa [g2]at this
 ·refine⟨_,_,rfl,_,_,_,H1.c2,_,rfl,_,_,rfl,hk,_,s0,λhz=>?_,λhz=>?_⟩
  ·
   have hnm:k ∉ row:=by
    rcases H1.seat.2 k hk with⟨p,hp1,hp2⟩ | ⟨hn,_⟩
    ·rw[hs]at hp2;injection hp2 with hp2;omega
    ·exact hn
   refine⟨_,_,_,H1.c0,λh6 e6=>?_⟩
   obtain⟨k6,g6,z6⟩:=aj e6
   have o6:bK h6 A row.length K (dG row):=H1.own.keep (λb _ hb=>k6.get b hb) k6.next
   obtain⟨A9,K9,h7,a1,a2,a3,a4,a5⟩:=o6.app (B:=h.next) (L:=2) (x:=(k:Int)) (aa g6 rfl) (by omega)
   have l3:=H1.lt3
   have n3:=H1.ne
   have far6:∀b,af A b->b≠hp/\b≠Bc/\b≠Bs:=λb hb=>(H1.far b hb).2
   have k7:∀b,b<h.next->¬af A b->h7.get b=h.get b:=λb hb hne=>(a4 b (by omega) hne).trans (k6.get b hb)
   have blk7:Bk h7 hp [.slice A row.length K,.slice (some ⟨Bc,0,none⟩) N (cx N),.slice (some ⟨Bs,0,none⟩) N (cx N)] 281:=(k7 hp l3.1 (λhh=>(far6 _ hh).1 rfl)).trans H1.blk
   have bc7:Bk h7 Bc (costs.map (Value.int .i64)) 2:=(k7 Bc l3.2.1 (λhh=>(far6 _ hh).2.1 rfl)).trans H1.bc
   have bs7:Bk h7 Bs (seats.map (Value.int .i64)) 3:=(k7 Bs l3.2.2 (λhh=>(far6 _ hh).2.2 rfl)).trans H1.bs
   have new9:∀b,af A9 b->(S b\/(h.next<=b/\b<h7.next))/\b≠hp/\b≠Bc/\b≠Bs:=λb hb=>by
    rcases a5 b hb with h1 | h1
    ·exact⟨.inl (H1.far b h1).1,far6 b h1⟩
    ·exact⟨.inr ⟨by omega,h1.2⟩,by omega,by omega,by omega⟩
   obtain⟨h8,b1,b2,b3,b4⟩:=aA (v:=.slice A9 (row.length+1) K9) blk7 (o:=0) (by simp) rfl
   have bs8:Bk h8 Bs (seats.map (Value.int .i64)) 3:=(b4 Bs (Ne.symm n3.2.1)).trans bs7
   obtain⟨h9,c1,c2,c3,c4⟩:=cH bs8 (k:=k) (by omega) ((row.length+1:Nat):Int)
   have y2:ldC h8 hp 2=some (.slice (some ⟨Bs,0,none⟩) N (cx N)):=aa b2 rfl
   have y0:ldC h8 hp 0=some (.slice A9 (row.length+1) K9):=aa b2 rfl
   have hlen9:(row ++ [k]).length=row.length+1:=by simp
   refine⟨A9,row.length+1,K9,h7,a1,h8,b1,_,_,_,y2,_,_,_,y0,_,_,rfl,hk,h9,c1,row ++ [k],A9,K9,seats.set k ((row.length:Int)+1),λb=>S b\/(h.next<=b/\b<h7.next),row.length,⟨?_,?_,?_,?_,⟨by omega,by omega,by omega⟩,⟨.inl H1.inS.1,.inl H1.inS.2.1,.inl H1.inS.2.2⟩,n3,new9,hcl,hN,λy hy=>?_,?_,H1.cbd,xr H1.seat hk hnm⟩,by simp,by simp[hsl,hk],?_,?_,λb hb=>hb.imp id λh=>⟨h.1,by omega⟩,λrow2 hm2=>?_⟩
   ·rw[hlen9];exact(c4 hp n3.2.1).trans b2
   ·exact(c4 Bc n3.2.2).trans ((b4 Bc (Ne.symm n3.1)).trans bc7)
   ·rw[show((row.length+1:Nat):Int)=(row.length:Int)+1 by omega]at c2;exact c2
   ·rw[hlen9]
    have:dG (row ++ [k])=dG row ++ [(k:Int)]:=by simp[dG]
    rw[this]
    exact a2.keep (λb hb _=>(c4 b (new9 b hb).2.2.2).trans (b4 b (new9 b hb).2.1)) (by omega)
   ·rcases List.mem_append.1 hy with hy | hy
    ·exact H1.lt y hy
    ·simp at hy;omega
   ·refine List.nodup_append.2 ⟨H1.nodup,by simp,λy hy z hz=>?_⟩
    simp at hz
    subst hz
    exact λe=>hnm (e ▸ hy)
   ·rw[rf (by rw[hcl];exact hk),zd,hlen9]
    exact(HR.other (k:=k) (v:=c) (λj hj he=>hnm (by
     have h7:row[j]? = some row[j]:=List.getElem?_eq_getElem hj
     rw[cj h7]at he
     rw[<-he]
     exact List.getElem_mem hj))).put k
   ·refine⟨by have:=k6.next;omega,λb hb hn=>?_⟩
    have e1:b≠Bs:=λe=>hn (e ▸ H1.inS.2.2)
    have e2:b≠hp:=λe=>hn (e ▸ H1.inS.1)
    exact((c4 b e1).trans (b4 b e2)).trans (k7 b hb (λhh=>hn (H1.far b hh).1))
   ·exact HQ.new (by rw[hcl];exact hk) hnm (λy=>by rw[hm2 y];simp)
  ·
   have hkr:∃p:Nat,row[p]? = some k/\seats[k]? = some ((p:Int)+1):=by
    rcases H1.seat.2 k hk with hh | ⟨_,hn⟩
    ·exact hh
    ·rw[hs]at hn;injection hn with hn;omega
   obtain⟨p,hp1,hp2⟩:=hkr
   have hkm:k∈row:=List.mem_of_getElem? hp1
   have hpl:=(List.getElem?_eq_some_iff.1 hp1).1
   refine⟨_,_,_,H1.c1,_,_,rfl,hk,_,x0,λhle=>?_,λhgt=>?_⟩
   ·obtain⟨g1,g2⟩:=HQ.same (c:=c) hkm (by rw[hxc];exact hx0) (by rw[hxc];exact hle)
    have:=hK h S ⟨row,costs,A,K,Bc,Bs,seats,H1,HR,g1,HS⟩ (Mt.refl _ _) (λb hb=>.inl hb)
    rwa [g2]at this
   ·refine⟨row,A,K,seats,S,p,H1,hp1,hp2,?_,Mt.refl _ _,λb hb=>.inl hb,λrow2 hm2=>HQ.less (by rw[hcl];exact hk) hkm hm2 hc0 (by rw[hxc];omega)⟩
    rw[rf (by rw[hcl];exact hk)]
    have hrk:=cj hp1
    rw[<-hrk]
    refine HR.less hpl (by rw[hrk,hxc];omega) λj hj he=>?_
    have h7:row[j]? = some row[j]:=List.getElem?_eq_getElem hj
    rw[cj h7,hrk]at he
    rw[he]at h7
    exact dq H1.nodup h7 hp1
theorem DR {q:Nat->Option Nat}(H:bh h S hp N q) (hK0:(∀k,q k=none)->Q (.tuple #[.int .i64 0,.int .i64 0,.bool false]) h)
  (hK:∀(k c:Nat) h',k<N->q k=some c->(∀b c',q b=some c'->c<=c')->bh h' S hp N (del q k)->Mt S h h'->h'.next=h.next->Q (.tuple #[.int .i64 k,.int .i64 c,.bool true]) h'):WC Tryz.prog 93 [.pointer (some ⟨hp,0,none⟩)] h Q:=by
 obtain⟨row,costs,A,K,Bc,Bs,seats,H1,HR,HQ,HS⟩:=H
 have hN:=H1.nN
 have hf:=H1.few
 refine lJ ⟨_,_,rfl,_,_,_,H1.c0,λh0=>hK0 λk=>?_,λh0=>?_⟩
 ·have:row = []:=List.eq_nil_of_length_eq_zero (by omega)
  rw[HQ k,this];rfl
 ·obtain⟨m,hm⟩:∃m,row.length=m+1:=⟨row.length - 1,by omega⟩
  obtain⟨k,hk⟩:∃k,row[0]? = some k:=⟨_,List.getElem?_eq_getElem (by omega)⟩
  obtain⟨b,hb⟩:∃b,row[m]? = some b:=⟨_,List.getElem?_eq_getElem (by omega)⟩
  obtain⟨g,rfl,hg,hil,e0⟩:=H1.own.read (cQ hk)
  have hkN:=H1.lt k (List.mem_of_getElem? hk)
  have c0:=H1.c0
  refine⟨_,_,_,c0,_,_,rfl,by omega,_,e0,_,_,_,c0,_,ah (by omega) (by omega),rfl,?_⟩
  rw[show((row.length:Int) - 1)=(m:Int) by omega,show(0:Int)=((0:Nat):Int) from rfl]
  refine zz H1 hk hb λh1 H2 m1 z1=>⟨rfl,_,_,_,H2.c0,m,rfl,?_⟩
  have hl1:(swL row 0 m).length=m+1:=by rw[iE];exact hm
  have l0:0<row.length:=by omega
  have lm:m<row.length:=by omega
  have hk1:(swL row 0 m)[m]? = some k:=by
   rw[c8 l0 lm]
   by_cases h:m=0
   ·subst h;rw[if_pos rfl];exact hk
   ·rw[if_neg h,if_pos rfl];exact hk
  obtain⟨o2,hsl⟩:=H2.own.cut (m:=m) (by omega) (by omega)
  have n3:=H2.ne
  have far2:=H2.far g rfl
  obtain⟨h2,s2,b2,z2,k2⟩:=aA (v:=.slice (some ⟨g,0,none⟩) m K) H2.blk (o:=0) (by simp) rfl
  have bs2:=(k2 Bs (Ne.symm n3.2.1)).trans H2.bs
  have hsl2:=H2.seat.1
  obtain⟨h3,s3,b3,z3,k3⟩:=cH bs2 (k:=k) (by omega) 0
  have y2:ldC h2 hp 2=some (.slice (some ⟨Bs,0,none⟩) N (cx N)):=aa b2 rfl
  have l3:=H2.lt3
  have hlt:((swL row 0 m).take m).length=m:=by simp[hl1]
  have H3:bq h3 S hp N ((swL row 0 m).take m) costs (some ⟨g,0,none⟩) K Bc Bs ((((seats.set b ((0:Int)+1)).set k ((m:Int)+1))).set k 0):=by
   refine⟨by rw[hlt];exact(k3 hp n3.2.1).trans b2,(k3 Bc n3.2.2).trans ((k2 Bc (Ne.symm n3.1)).trans H2.bc),b3,?_,⟨by omega,by omega,by omega⟩,H2.inS,n3,H2.far,H2.cl,hN,λy hy=>H2.lt y (List.mem_of_mem_take hy),H2.nodup.sublist (List.take_sublist _ _),H2.cbd,xu H2.seat H2.nodup hl1 hk1 hkN⟩
   rw[hlt,<-uG]
   exact o2.keep (λc hc _=>by have:c=g:=hc;rw[this];exact(k3 g far2.2.2.2).trans (k2 g far2.2.1)) (by omega)
  have hdn:fG (cOf costs) (rOf ((swL row 0 m).take m)) ((swL row 0 m).take m).length 0:=by
   rw[hm]at HR
   rw[hlt]
   refine HR.pop.congr λx hx=>?_
   rw[<-uH l0 lm]
   unfold rOf
   rw[List.getD_eq_getElem?_getD,List.getD_eq_getElem?_getD,List.getElem?_take]
   simp[hx]
  have hmem2:∀x,x∈(swL row 0 m).take m↔x∈row/\x≠k:=λx=>by rw[Bb H2.nodup hl1 hk1,jY l0 lm]
  refine⟨_,_,_,hsl,h2,s2,_,_,_,y2,k,rfl,_,_,rfl,hkN,h3,s3,DP H3 hdn λh4 row2 seats2 H4 l4 m4 r4 mt4 z4=>⟨rfl,_,_,_,H4.c1,_,_,rfl,hkN,?_⟩⟩
  obtain⟨x,hx,x1,x2,x3⟩:=H4.cost hkN
  have hxc:cOf costs k=x:=by simp[cOf,List.getD_eq_getElem?_getD,hx]
  have hkr:k∈row:=List.mem_of_getElem? hk
  refine⟨x,x1,?_⟩
  have hmt:Mt S h h4:=(m1.then ⟨by omega,λc _ hc=>(k3 c (λe=>hc (e ▸ H2.inS.2.2))).trans (k2 c (λe=>hc (e ▸ H2.inS.1)))⟩).then mt4
  have:=hK k x.toNat h4 hkN (by rw[HQ k,if_pos hkr,hxc]) (λy c' hy=>?_) ⟨row2,costs,_,K,Bc,Bs,seats2,H4,r4,λy=>?_,λy hy=>?_⟩ hmt (by omega)
  ·rwa [Int.toNat_of_nonneg x2]at this
  ·rw[HQ y]at hy
   split at hy
   ·rename_i hyr
    injection hy with hy
    obtain⟨j,hj⟩:=List.getElem?_of_mem hyr
    have h8:=HR.top j (List.getElem?_eq_some_iff.1 hj).1
    rw[cj hk,cj hj]at h8
    unfold HLe at h8
    omega
   ·cases hy
  ·unfold del
   by_cases hyk:y=k
   ·rw[if_pos hyk,if_neg (λhh=>((hmem2 y).1 ((m4 y).1 hh)).2 hyk)]
   ·rw[if_neg hyk,HQ y]
    by_cases hyr:y∈row
    ·rw[if_pos hyr,if_pos ((m4 y).2 ((hmem2 y).2 ⟨hyr,hyk⟩))]
    ·rw[if_neg hyr,if_neg (λhh=>hyr ((hmem2 y).1 ((m4 y).1 hh)).1)]
  ·have:=HS y hy
   omega
end
end Eva
end
section
open Go Go.RowKit
namespace Eva
section
variable {h h':AH}{S:Nat->Prop}{hp N:Nat}{Q:Value->AH->Prop}
theorem bK.cut0 {A:Option Addr}{n K:Nat}{xs:List Int}(o:bK h A n K xs):bK h A 0 K []/\aE Tryz.prog 3 A n K none (some 0) none=some (.slice A 0 K):=by
 rcases Nat.eq_zero_or_pos n with h0 | h0
 ·subst h0
  have hx:xs = []:=List.eq_nil_of_length_eq_zero o.1
  subst hx
  refine⟨o,?_⟩
  rcases o.2 with⟨rfl,_,rfl⟩ | ⟨g,c,rest,rfl,h1,h2,h3,h4,h5⟩
  ·obtain⟨i,hi,-⟩:=bi dK
   unfold aE
   rw[hi]
   rfl
  ·have o1:bK h (some ⟨g,0,none⟩) 0 K ([]:List Int):=o
   obtain⟨i,hi,hsz⟩:∃i,Tryz.prog.info? 3=some i/\i.size=1:=by
    obtain⟨i,q1,q2,-⟩:=bi dK
    exact⟨i,q1,q2⟩
   unfold aE
   rw[hi]
   have hc2:K / 2=c:=by rw[h2];unfold cl;omega
   have hp:Nat.beq (K % 2) 0=false:=by
    have:K % 2=1:=by rw[h2];unfold cl;omega
    rw[this];rfl
   have hb1:Nat.ble 0 (K / 2)=true:=Nat.ble_eq_true_of_le (Nat.zero_le _)
   have hlt:Nat.blt 0 (K / 2)=true:=Nat.ble_eq_true_of_le (by omega)
   show cond (Option.isNone (none:Option Nat) || Option.isSome (some 0)) (cw i.size (some ⟨g,0,none⟩) 0 K ((none:Option Nat).getD 0) (some 0) none) none=_
   simp only[Option.isNone_none,Bool.true_or,cond_true,Option.getD_none]
   unfold cw
   have hb0:Nat.ble 0 0=true:=rfl
   simp only[Option.getD_some,hb1,hb0,Bool.and_self,cond_true,hp,cond_false]
   unfold mj
   rw[hlt]
   simp only[cond_true,Nat.sub_zero,Nat.zero_mul,Option.map_some]
   rw[hc2,h2]
   rfl
 ·have:=o.cut (m:=0) (Nat.zero_le _) h0
  simpa using this
theorem zA {q:Nat->Option Nat}(H:bh h S hp N q) (hK:∀h',bh h' S hp N (λ_=>none)->Mt S h h'->h'.next=h.next->Q (.tuple #[]) h'):WC Tryz.prog 157 [.pointer (some ⟨hp,0,none⟩)] h Q:=by
 obtain⟨row,costs,A,K,Bc,Bs,seats,H1,HR,HQ,HS⟩:=H
 have hN:=H1.nN
 have hf:=H1.few
 have n3:=H1.ne
 refine jP ⟨_,_,rfl,_,_,_,H1.c0,λm x h1=>∃(i:Nat) (seats':List Int),x=i/\m=row.length - i/\i<=row.length/\seats'.length=N/\(∀k,k<N->seats'[k]? = if k∈row.take i then some 0 else seats[k]?)/\Bk h1 Bs (seats'.map (Value.int .i64)) 3/\h1.next=h.next/\(∀b,b≠Bs->h1.get b=h.get b),row.length,⟨0,seats,rfl,rfl,Nat.zero_le _,H1.seat.1,λk _=>by simp,H1.bs,rfl,λ_ _=>rfl⟩,?_⟩
 rintro m x h1 ⟨i,seats',rfl,hm,hi,hl,hs,hb,hz,ho⟩
 subst m
 have y0:ldC h1 hp 0=some (.slice A row.length K):=(aW (ho hp n3.2.1) _).trans H1.c0
 have y2:ldC h1 hp 2=some (.slice (some ⟨Bs,0,none⟩) N (cx N)):=(aW (ho hp n3.2.1) _).trans H1.c2
 have own1:bK h1 A row.length K (dG row):=H1.own.keep (λb hb _=>ho b (H1.far b hb).2.2.2) (by omega)
 refine⟨λhlt=>?_,λhge=>?_⟩
 ·obtain⟨k,hk⟩:∃k,row[i]? = some k:=⟨_,List.getElem?_eq_getElem (by omega)⟩
  obtain⟨g,rfl,hg,hil,e0⟩:=own1.read (cQ hk)
  have hkN:=H1.lt k (List.mem_of_getElem? hk)
  obtain⟨h2,q1,q2,q3,q4⟩:=cH hb (k:=k) (by omega) 0
  refine⟨i,rfl,_,_,rfl,hil,_,e0,_,_,_,y2,k,rfl,_,_,rfl,hkN,h2,q1,_,ah (by omega) (by omega),row.length - (i+1),by omega,i+1,_,by omega,rfl,by omega,by rw[List.length_set];exact hl,λy hy=>?_,q2,by omega,λb hb=>(q4 b hb).trans (ho b hb)⟩
  rw[List.getElem?_set,List.take_add_one,hk]
  by_cases e:k=y
  ·subst e;simp[hl,hkN]
  ·rw[if_neg e,hs y hy]
   have:y∈row.take i ++ (some k).toList↔y∈row.take i:=by simp;intro h;exact absurd h.symm e
   by_cases hm:y∈row.take i
   ·rw[if_pos hm,if_pos (this.2 hm)]
   ·rw[if_neg hm,if_neg (λh=>hm (this.1 h))]
 ·have hie:i=row.length:=by omega
  subst hie
  obtain⟨o2,hsl⟩:=own1.cut0
  have b1:Bk h1 hp [.slice A row.length K,.slice (some ⟨Bc,0,none⟩) N (cx N),.slice (some ⟨Bs,0,none⟩) N (cx N)] 281:=(ho hp n3.2.1).trans H1.blk
  obtain⟨h2,s2,b2,z2,k2⟩:=aA (v:=.slice A 0 K) b1 (o:=0) (by simp) rfl
  refine⟨_,_,_,y0,_,_,_,hsl,h2,s2,hK h2 ⟨[],costs,A,K,Bc,Bs,seats',⟨b2,(k2 Bc (Ne.symm n3.1)).trans ((ho Bc n3.2.2).trans H1.bc),(k2 Bs (Ne.symm n3.2.1)).trans hb,o2.keep (λb hb _=>k2 b (H1.far b hb).2.1) (by omega),⟨by have:=H1.lt3;omega,by have:=H1.lt3;omega,by have:=H1.lt3;omega⟩,H1.inS,n3,H1.far,H1.cl,hN,by simp,by simp,H1.cbd,hl,λk hk=>.inr ⟨by simp,?_⟩⟩,λj h1 h2=>by simp at h2,λk=>by simp,λb hb=>by rw[z2,hz];exact HS b hb⟩ ⟨by omega,λb _ hn=>(k2 b (λe=>hn (e ▸ H1.inS.1))).trans (ho b (λe=>hn (e ▸ H1.inS.2.2)))⟩ (by omega)⟩
  rw[hs k hk,List.take_of_length_le (Nat.le_refl _)]
  by_cases hm:k∈row
  ·rw[if_pos hm]
  ·rw[if_neg hm]
   rcases H1.seat.2 k hk with⟨p,h1,-⟩ | ⟨-,h1⟩
   ·exact absurd (List.mem_of_getElem? h1) hm
   ·exact h1
end
end Eva
end
section
open Go Go.RowKit
def cm (zs:List Int):Nat->List Int
 | 0=>[]
 | k+1=>if 0<k/\zs[k]? = zs[k - 1]? then cm zs k else cm zs k ++ (zs[k]?).toList
theorem ke {zs:List Int}{x:Int}:∀k,x∈cm zs k↔x∈zs.take k
 | 0=>by simp[cm]
 | k+1=>by
  unfold cm
  rw[List.take_add_one,List.mem_append]
  split
  ·rename_i h
   rw[ke k]
   constructor
   ·exact .inl
   ·rintro(h1 | h1)
    ·exact h1
    ·rw[h.2]at h1
     have h2:zs[k - 1]? = some x:=by simpa using h1
     refine List.mem_of_getElem? (i:=k - 1) ?_
     rw[List.getElem?_take,if_pos (by omega)]
     exact h2
  ·rw[List.mem_append,ke k]
theorem ju {zs:List Int}(hs:zs.Pairwise (·<=·)){i j:Nat}{x y:Int}(hi:zs[i]? = some x) (hj:zs[j]? = some y) (hij:i<=j):x<=y:=by
 rcases Nat.eq_or_lt_of_le hij with rfl | h
 ·rw[hi]at hj;injection hj with hj;omega
 ·obtain⟨hil,rfl⟩:=List.getElem?_eq_some_iff.1 hi
  obtain⟨hjl,rfl⟩:=List.getElem?_eq_some_iff.1 hj
  exact List.pairwise_iff_getElem.1 hs i j hil hjl h
theorem kf {zs:List Int}(hs:zs.Pairwise (·<=·)):∀k,(cm zs k).Pairwise (· < ·)
 | 0=>by simp[cm]
 | k+1=>by
  unfold cm
  split
  ·exact kf hs k
  ·rename_i h
   cases hk:zs[k]? with
   | none=>simpa using kf hs k
   | some x=>
    refine List.pairwise_append.2 ⟨kf hs k,by simp,λy hy z hz=>?_⟩
    have hzx:z=x:=by simpa using hz
    subst hzx
    obtain⟨i,hi⟩:=List.getElem?_of_mem ((ke k).1 hy)
    rw[List.getElem?_take]at hi
    split at hi
    ·rename_i hik
     have h1:y<=z:=ju hs hi hk (by omega)
     rcases Int.lt_or_eq_of_le h1 with h2 | h2
     ·exact h2
     ·exfalso
      have hkl:=(List.getElem?_eq_some_iff.1 hk).1
      obtain⟨u,hu⟩:∃u,zs[k - 1]? = some u:=⟨_,List.getElem?_eq_getElem (by omega)⟩
      have h3:=ju hs hi hu (by omega)
      have h4:=ju hs hu hk (by omega)
      exact h ⟨by omega,by rw[hk,hu];congr 1;omega⟩
    ·cases hi
def jv (low row:List Int) (c:Int):Nat->List Int
 | 0=>[]
 | k+1=>if row[k]? = some c then jv low row c k ++ (low[k]?).toList else jv low row c k
theorem kg {low row:List Int}{c x:Int}:∀k,x∈jv low row c k↔∃v,v<k/\row[v]? = some c/\low[v]? = some x
 | 0=>by simp[jv]
 | k+1=>by
  unfold jv
  split
  ·rename_i h
   rw[List.mem_append,kg k,Option.mem_toList]
   constructor
   ·rintro(⟨v,h1,h2,h3⟩ | h1)
    ·exact⟨v,by omega,h2,h3⟩
    ·exact⟨k,by omega,h,by simpa using h1⟩
   ·rintro⟨v,h1,h2,h3⟩
    by_cases e:v=k
    ·subst e;exact .inr (by simpa using h3)
    ·exact .inl ⟨v,by omega,h2,h3⟩
  ·rename_i h
   rw[kg k]
   constructor
   ·rintro⟨v,h1,h2,h3⟩;exact⟨v,by omega,h2,h3⟩
   ·rintro⟨v,h1,h2,h3⟩
    by_cases e:v=k
    ·subst e;exact absurd h2 h
    ·exact⟨v,by omega,h2,h3⟩
theorem tk (low row:List Int) (c:Int):∀k,(jv low row c k).length<=k
 | 0=>by simp[jv]
 | k+1=>by
  unfold jv
  have:=tk low row c k
  split
  ·rw[List.length_append]
   have:(low[k]?).toList.length<=1:=by cases low[k]? <;>simp
   omega
  ·omega
theorem xF {l:List Int}(h:∀x∈l,0<=x):ints (l.map Int.toNat)=l:=by
 unfold ints
 rw[List.map_map]
 conv=>rhs;rw[<-List.map_id l]
 refine List.map_congr_left λx hx=>?_
 have:=h x hx
 show((x.toNat:Nat):Int)=x
 omega
theorem cn {p:List (List Int)}{k v:Nat}{row:List Int}{x:Int}(hr:p[k - 1]? = some row) (hx:row[v]? = some x):cel p k v=x.toNat:=by
 unfold cel
 rw[hr]
 simp[hx]
namespace Eva
section
variable {h h':AH}{Q:Value->AH->Prop}{F:Nat->Prop}{A:Option Addr}{n K:Nat}{zs:List Int}{p:List (List Int)}
theorem nR:∀(l:List Int),gW (l.map (Value.int .i64))=some l
 | []=>rfl
 | x :: l=>by
  show(gW (l.map (Value.int .i64))).map (x :: ·)=_
  rw[nR l];rfl
theorem DS (o:bK h A n K zs) (hn:0<n) (hnb:n<=1000000) (hK:∀h',bK h' A n K (zs.mergeSort λx y=>decide (x<=y))->Mt (af A) h h'->h'.next=h.next->Q (.tuple #[]) h'):WC Tryz.prog 323 [.slice A n K] h Q:=by
 obtain⟨hl,o⟩:=o
 rcases o with⟨_,h1,_⟩ | ⟨g,c,rest,rfl,h1,h2,h3,h4,h5⟩
 ·omega
 ·have hs:orc 323 [.slice (some ⟨g,0,none⟩) n K] h=some (.tuple #[],h.put g (.cells ((zs.mergeSort λx y=>decide (x<=y)).map (Value.int .i64) ++ rest) 3 false)):=by
   unfold orc
   rw[Nat.beq_refl]
   simp only[cond_true]
   unfold vB
   simp only[h5]
   have e1:((zs.map (Value.int .i64) ++ rest).drop 0).take n=zs.map (Value.int .i64):=by
    rw[List.drop_zero,List.take_append_of_le_length (by simp;omega),List.take_of_length_le (by simp;omega)]
   rw[e1,nR]
   have e3:(zs.map (Value.int .i64) ++ rest).drop (0+n)=rest:=by
    rw[show 0+n=(zs.map (Value.int .i64)).length by simp;omega,List.drop_left]
   unfold uj
   have b1:Nat.ble (0+n) (zs.map (Value.int .i64) ++ rest).length=true:=Nat.ble_eq_true_of_le (by simp;omega)
   have b2:Nat.ble n (K / 2)=true:=Nat.ble_eq_true_of_le (by rw[h2];unfold cl;omega)
   have b3:Nat.ble n 1000000=true:=Nat.ble_eq_true_of_le hnb
   simp only[b1,b2,b3,Bool.and_self,cond_true,List.take_zero,List.nil_append,e3]
  refine⟨0,_,_,by unfold aK;rw[hs],hK (h.put g (.cells ((zs.mergeSort λx y=>decide (x<=y)).map (Value.int .i64) ++ rest) 3 false)) ⟨by rw[List.length_mergeSort];exact hl,.inr ⟨g,c,rest,rfl,h1,h2,h3,h4,?_⟩⟩ ⟨Nat.le_refl _,λb hb hn=>by rw[get_put,if_neg (λe:b=g=>hn e)]⟩ rfl⟩
  show(h.put g _).get g=_
  rw[get_put,if_pos rfl]
theorem vY {g k c:Nat}(hk:k<=n) (hn:n<=c) (hkc:k<c):aE Tryz.prog 3 (some ⟨g,0,none⟩) n (cl c) (some k) none none=some (.slice (some ⟨g,k,none⟩) (n - k) (cl (c - k))):=by
 obtain⟨i,hi,hsz,-⟩:=bi dK
 unfold aE
 rw[hi]
 have hc2:(cl c) / 2=c:=by unfold cl;omega
 have hp:Nat.beq ((cl c) % 2) 0=false:=by
  have:(cl c) % 2=1:=by unfold cl;omega
  rw[this];rfl
 have b1:Nat.ble n ((cl c) / 2)=true:=Nat.ble_eq_true_of_le (by omega)
 have b2:Nat.ble k n=true:=Nat.ble_eq_true_of_le hk
 have b3:Nat.blt k c=true:=Nat.ble_eq_true_of_le hkc
 show cond (Option.isNone (none:Option Nat) || Option.isSome (none:Option Nat)) (cw i.size (some ⟨g,0,none⟩) n (cl c) ((some k).getD 0) none none) none=_
 simp only[Option.isNone_none,Bool.true_or,cond_true,Option.getD_some]
 unfold cw
 simp only[Option.getD_none,b1,b2,Bool.and_self,cond_true,hp,cond_false]
 unfold mj
 rw[hc2,b3,hsz,Nat.mul_one]
 simp only[cond_true,Option.map_some]
 rw[bj,Nat.zero_add]
theorem uP {g o m:Nat}{cells:List Value}{L:Nat}(hb:Bk h g cells 3) (ho:o+m<=cells.length) :
  ∃h',gL Tryz.prog h (some (.slice 3)) (.slice (some ⟨g,o,none⟩) m L)=some (.tuple #[],h')/\Bk h' g (cells.take o ++ List.replicate m (.int .i64 0) ++ cells.drop (o+m)) 3/\h'.next=h.next/\∀b,b≠g->h'.get b=h.get b:=by
 have hz:∃i,Tryz.prog.info? 3=some i/\i.zero=some (.int .i64 0)/\i.size=1:=by
  obtain⟨i,hi,hs,-⟩:=bi dK
  refine⟨i,hi,?_,hs⟩
  have:(match Tryz.prog.info? 3 with | some i=>i.zero | none=>none)=some (.int .i64 0):=by kernel_rfl
  rw[hi]at this
  exact this
 obtain⟨i,hi,hz,hs⟩:=hz
 unfold gL
 simp only[hi,hz,hs]
 have zo:eX (Value.int .i64 0) 1=true:=by kernel_rfl
 rw[zo]
 simp only[cond_true]
 rcases Nat.eq_zero_or_pos m with h0 | h0
 ·subst h0
  refine⟨h,rfl,?_,rfl,λ_ _=>rfl⟩
  simpa using hb
 ·have hb0:Nat.beq m 0=false:=by
   cases hb0:Nat.beq m 0 with
   | false=>rfl
   | true=>have:=aq hb0;omega
  rw[hb0]
  simp only[cond_false]
  have e1:rep m ((Value.int .i64 0).cells.toList)=List.replicate m (Value.int .i64 0):=a9 _ _
  rw[e1]
  have:=stN (h:=h) (b:=g) (o:=o) (vs:=List.replicate m (Value.int .i64 0)) hb (by simpa using ho) (λv hv=>by rw[List.eq_of_mem_replicate hv];rfl)
  unfold stC at this
  rw[this]
  refine⟨_,rfl,?_,rfl,λb hb=>by rw[get_put,if_neg hb]⟩
  show(h.put g _).get g=_
  rw[get_put,if_pos rfl]
  simp
theorem zB (o:bK h A n K zs) (hn:n<=100000) (hK:∀m h',bK h' A m K (cm zs zs.length)->Mt (af A) h h'->h'.next=h.next->Q (.slice A m K) h'):WC Tryz.prog 324 [.slice A n K] h Q:=by
 have hl:=o.1
 have done:cm zs n=zs->Q (.slice A n K) h:=λhd=>hK n h (by rw[hl,hd];exact o) (Mt.refl _ _) rfl
 have d1:∀k,0<k->k<n->cm zs k=zs.take k->¬zs[k]? = zs[k - 1]?->cm zs (k+1)=zs.take (k+1):=λk h0 hk hd hne=>by
  unfold cm
  rw[if_neg (λh=>hne h.2),hd,List.take_add_one]
 have d0:cm zs 1=zs.take 1:=by
  unfold cm
  rw[if_neg (λh=>absurd h.1 (Nat.lt_irrefl _))]
  simp[cm,List.take_add_one]
 refine fk ⟨λhlt=>?_,λhge=>?_⟩
 ·refine done ?_
  rcases Nat.eq_zero_or_pos n with h0 | h0
  ·rw[h0]
   have:zs = []:=List.eq_nil_of_length_eq_zero (by omega)
   rw[this];rfl
  ·have:n=1:=by omega
   rw[this,d0,List.take_of_length_le (by omega)]
 refine⟨λm x h1=>∃k:Nat,x=k/\0<k/\k<=n/\m=n - k/\cm zs k=zs.take k/\h1=h,n - 1,⟨1,rfl,by omega,by omega,rfl,d0,rfl⟩,?_⟩
 rintro m x h1 ⟨k,rfl,hk0,hk,rfl,hd,rfl⟩
 refine⟨λhlt=>?_,λhge2=>?_⟩
 rotate_left
 ·refine done ?_
  have:k=n:=by omega
  rw[<-this,hd,List.take_of_length_le (by omega)]
 have hkn:k<n:=by omega
 obtain⟨g,c,rest,rfl,g1,g2,g3,g4,g5⟩:∃g c rest,A=some ⟨g,0,none⟩/\g<h1.next/\K=cl c/\0<c/\rest.length+n=c/\Bk h1 g (zs.map (Value.int .i64) ++ rest) 3:=by
  rcases o.2 with⟨_,h1,_⟩ | h1
  ·omega
  ·exact h1
 have rd:∀{ws:List Int}{h2:AH}{j:Nat}{y:Int},Bk h2 g (ws.map (Value.int .i64) ++ rest) 3->ws[j]? = some y->ldC h2 g (0+j)=some (.int .i64 y):=fun {ws h2 j y} hb hy=>by
  have:=(List.getElem?_eq_some_iff.1 hy).1
  rw[aP hb,Nat.zero_add,List.getElem?_append_left (by simpa using this)]
  simp[hy]
 obtain⟨y,hy⟩:∃y,zs[k]? = some y:=⟨_,List.getElem?_eq_getElem (by omega)⟩
 obtain⟨z,hz⟩:∃z,zs[k - 1]? = some z:=⟨_,List.getElem?_eq_getElem (by omega)⟩
 have wk:IntKind.i64.wrap ((k:Int) - 1)=((k - 1:Nat):Int):=by rw[Int.natCast_sub hk0];exact ah (by omega) (by omega)
 have wk1:IntKind.i64.wrap ((k:Int)+1)=((k+1:Nat):Int):=by rw[Int.natCast_succ];exact ah (by omega) (by omega)
 refine⟨k,rfl,g,0,rfl,hkn,_,rd g5 hy,_,wk,k - 1,rfl,by omega,_,rd g5 hz,λhe=>?_,λhe=>?_⟩
 rotate_left
 ·exact⟨_,wk1,n - (k+1),by omega,k+1,rfl,by omega,hkn,rfl,d1 k hk0 hkn hd (by rw[hy,hz];intro e;injection e with e;exact he e),rfl⟩
 rw[g2]
 refine⟨_,_,_,vY (by omega) (by omega) (by omega),λm i x h2=>∃(q j:Nat) (ws:List Int),x=j/\i=q/\0<j/\j<=n - k/\m=n - k - j/\ws.length=n/\ws.take q=cm zs (k+j)/\q=(cm zs (k+j)).length/\q<=k+j - 1/\(∀r,k+j - 1<=r->ws[r]? = zs[r]?)/\Bk h2 g (ws.map (Value.int .i64) ++ rest) 3/\h2.next=h1.next/\∀b,b≠g->h2.get b=h1.get b,n - k - 1,⟨k,1,zs,rfl,rfl,by omega,by omega,rfl,hl,?_,?_,by omega,λ_ _=>rfl,g5,rfl,λ_ _=>rfl⟩,?_⟩
 ·rw[cm,if_pos ⟨hk0,by rw[hy,hz,he]⟩,hd]
 ·rw[cm,if_pos ⟨hk0,by rw[hy,hz,he]⟩,hd,List.length_take];omega
 rintro m i x h2 ⟨q,j,ws,rfl,rfl,hj0,hj,rfl,hwl,hwt,hq,hql,hwr,b2,z2,o2⟩
 refine⟨λhlt=>?_,λhge=>?_⟩
 ·have hjl:j<n - k:=by omega
  have wj:IntKind.i64.wrap ((j:Int) - 1)=((j - 1:Nat):Int):=by rw[Int.natCast_sub hj0];exact ah (by omega) (by omega)
  have wj1:IntKind.i64.wrap ((j:Int)+1)=((j+1:Nat):Int):=by rw[Int.natCast_succ];exact ah (by omega) (by omega)
  have wq1:IntKind.i64.wrap ((q:Int)+1)=((q+1:Nat):Int):=by rw[Int.natCast_succ];exact ah (by omega) (by omega)
  obtain⟨u,hu⟩:∃u,zs[k+j]? = some u:=⟨_,List.getElem?_eq_getElem (by omega)⟩
  obtain⟨v,hv⟩:∃v,zs[k+j - 1]? = some v:=⟨_,List.getElem?_eq_getElem (by omega)⟩
  have ru:ldC h2 g (k+j)=some (.int .i64 u):=by have:=rd b2 ((hwr (k+j) (by omega)).trans hu);rwa [Nat.zero_add]at this
  have rv:ldC h2 g (k+(j - 1))=some (.int .i64 v):=by have:=rd b2 ((hwr (k+j - 1) (by omega)).trans hv);rwa [Nat.zero_add,show k+j - 1=k+(j - 1) by omega]at this
  refine⟨j,rfl,g,k,rfl,hjl,_,ru,_,wj,j - 1,rfl,by omega,_,rv,λhe=>?_,λhe=>⟨hjl,_,ru,q,rfl,by omega,?_⟩⟩
  ·have e1:cm zs (k+(j+1))=cm zs (k+j):=by
    show cm zs (k+j+1)=_
    rw[cm,if_pos ⟨by omega,by rw[hu,hv,he]⟩]
   exact⟨_,wj1,n - k - (j+1),by omega,q,j+1,ws,rfl,rfl,by omega,by omega,rfl,hwl,by rw[e1];exact hwt,by rw[e1];exact hq,by omega,λr hr=>hwr r (by omega),b2,z2,o2⟩
  ·obtain⟨h3,s3,b3,z3,o3⟩:=aA (v:=.int .i64 u) b2 (o:=0+q) (by simp;omega) rfl
   rw[Nat.zero_add,List.set_append_left _ _ (by simp;omega),<-List.map_set]at b3
   have e1:cm zs (k+(j+1))=cm zs (k+j) ++ [u]:=by
    show cm zs (k+j+1)=_
    rw[cm,if_neg (λh=>he (by have:=h.2;rw[hu,hv]at this;injection this)),hu]
    rfl
   refine⟨h3,s3,_,wq1,_,wj1,n - k - (j+1),by omega,q+1,j+1,ws.set q u,rfl,rfl,by omega,by omega,rfl,by simp[hwl],?_,by rw[e1,List.length_append,<-hq];rfl,by omega,λr hr=>?_,b3,by omega,λb hb=>(o3 b hb).trans (o2 b hb)⟩
   ·rw[e1,<-hwt,List.take_add_one,List.getElem?_set_self (by omega),List.take_set_of_le (Nat.le_refl _)]
    rfl
   ·rw[List.getElem?_set_ne (by omega)]
    exact hwr r (by omega)
 ·obtain rfl:j=n - k:=by omega
  rw[show k+(n - k)=n by omega]at hwt hq hql hwr
  obtain⟨h4,s4,b4,z4,o4⟩:=uP (o:=q) (m:=n - q) (L:=cl (c - q)) b2 (by simp;omega)
  have hcut:aE Tryz.prog 3 (some ⟨g,0,none⟩) n (cl c) none (some q) none=some (.slice (some ⟨g,0,none⟩) q (cl c)):=by
   have oR:bK h1 (some ⟨g,0,none⟩) n K zs:=o
   have:=(oR.cut (m:=q) (by omega) (by omega)).2
   rwa [g2]at this
  refine⟨q,rfl,_,_,_,vY (by omega) (by omega) (by omega),h4,s4,_,_,_,hcut,?_⟩
  have:=hK q h4 ⟨by rw[hl];exact hq.symm,.inr ⟨g,c,List.replicate (n - q) (.int .i64 0) ++ rest,rfl,by omega,g2,g3,by simp;omega,?_⟩⟩ ⟨by omega,λb hb hne=>(o4 b (λe=>hne e)).trans (o2 b (λe=>hne e))⟩ (by omega)
  ·rwa [g2]at this
  ·have e2:(ws.map (Value.int .i64) ++ rest).take q=(cm zs zs.length).map (Value.int .i64):=by
    rw[List.take_append_of_le_length (by simp;omega),<-List.map_take,hwt,hl]
   have e3:(ws.map (Value.int .i64) ++ rest).drop (q+(n - q))=rest:=by
    rw[show q+(n - q)=(ws.map (Value.int .i64)).length by simp;omega,List.drop_left]
   rw[e2,e3,List.append_assoc]at b4
   exact b4
end
end Eva
end
section
open Go Go.RowKit
namespace Eva
section
variable {h h':AH}{Q:Value->AH->Prop}{F:Nat->Prop}{A:Option Addr}{n K nv:Nat}{p:List (List Int)}
theorem dL {b o:Nat}{u:Value}(h0:ldC h b o=some u):ldN h b o 1=some [u]:=
 jt rfl (by omega) λj x hj=>by
  match j,hj with
  | 0,hj=>injection hj with hj;subst hj;exact h0
theorem nT (hs:Sa aY F h A n K p) (hn:n<=1000){k:Nat}(h1:1<=k) (h2:k<=n) (hK:∀A' n' K' row h',p[k - 1]? = some row->Sa cI F h' A' n' K' row->Nw h h'->Q (.slice A' n' K') h'):WC Tryz.prog 320 [.agg #[.slice A n K],.int .i64 k] h Q:=by
 refine nj λh1' e1=>?_
 obtain⟨k1,g1,z1⟩:=aj e1
 obtain⟨b,o,A',n',K',row,rfl,hF,hb,hr,e0,s0⟩:=(hs.nw k1).row (k:=k - 1) (by omega)
 exact⟨λh=>absurd h (by omega),λ_=>⟨_,_,_,aa g1 rfl,λh=>absurd h (by omega),λ_=>⟨_,_,_,aa g1 rfl,_,ah (by omega) (by omega),k - 1,by omega,_,_,rfl,by omega,_,_,_,e0,hK _ _ _ _ _ hr s0 k1⟩⟩⟩
theorem fM {k:Nat}{row:List Int}(hr:p[k - 1]? = some row):(ap p k:Int)=aI row:=by
 unfold ap
 rw[hr]
 have:=cD row
 simp only[Option.getD_some]
 omega
theorem cF (hp:ax nv p){k:Nat}{row:List Int}(hr:p[k - 1]? = some row):row.length=nv/\∀v,v<nv->∃x,row[v]? = some x/\0<=x/\x<nv:=by
 have hm:=List.mem_of_getElem? hr
 have hl:=hp.rows _ hm
 refine⟨hl,λv hv=>⟨row[v]'(by omega),List.getElem?_eq_getElem (by omega),?_⟩⟩
 exact hp.inr _ hm _ (List.getElem_mem _)
theorem C4 (hp:ax nv p) (hs:Sa aY F h A n K p){k:Nat}(h1:1<=k) (h2:k<=n) (hK:∀h',Nw h h'->Q (.int .i64 (ap p k:Int)) h'):WC Tryz.prog 280 [.agg #[.slice A n K],.int .i64 k] h Q:=by
 have hn:n<=6:=by rw[<-hs.len];exact hp.few
 have hnv:=hp.nv_
 refine qQ λh1' e1=>?_
 obtain⟨k1,g1,z1⟩:=aj e1
 refine⟨_,_,_,dL (aa g1 rfl),nT (hs.nw k1) (by omega) h1 h2 λA' n' K' row h2' hr s2 k2=>⟨_,_,_,rfl,?_⟩⟩
 obtain⟨hl,hx⟩:=cF hp hr
 have hn':n' = nv:=by rw[<-s2.len];exact hl
 subst hn'
 refine⟨λm acc x h3=>∃i:Nat,x=i/\i<=n'/\m=n' - i/\acc=aI (row.take i)/\h3=h2',n',⟨0,rfl,Nat.zero_le _,rfl,rfl,rfl⟩,?_⟩
 rintro m acc x h3 ⟨i,rfl,hi,rfl,rfl,rfl⟩
 refine⟨λhlt=>?_,λhge=>?_⟩
 ·obtain⟨b,o,y,rfl,-,-,hy,e0⟩:=s2.int (k:=i) (by omega)
  obtain⟨y',hy',y0,y1⟩:=hx i (by omega)
  rw[hy]at hy'
  injection hy' with hy'
  subst hy'
  have w1:IntKind.i64.wrap ((i:Int)+1)=((i+1:Nat):Int):=by rw[Int.natCast_succ];exact ah (by omega) (by omega)
  refine⟨i,rfl,_,_,rfl,by omega,_,e0,λhc=>⟨_,ah (by omega) (by omega),_,w1,n' - (i+1),by omega,i+1,rfl,by omega,rfl,?_,rfl⟩,λhc=>⟨_,w1,n' - (i+1),by omega,i+1,rfl,by omega,rfl,?_,rfl⟩⟩
  ·rw[dE hy];omega
  ·rw[dE hy];omega
 ·have hin:row.take i=row:=List.take_of_length_le (by omega)
  rw[hin,<-fM hr]
  exact hK _ (k1.trans k2)
theorem xG (hp:ax nv p){k c:Nat}{row:List Int}(hr:p[k - 1]? = some row) (hc:c<ap p k):∃v,v<nv/\row[v]? = some (c:Int):=by
 have hm:=List.mem_of_getElem? hr
 have h1:=fM hr
 obtain⟨v,hv⟩:=List.getElem?_of_mem (hp.full _ hm (c:Int) (by omega) (by omega))
 exact⟨v,by rw[<-(cF hp hr).1];exact(List.getElem?_eq_some_iff.1 hv).1,hv⟩
theorem DT {N:ab}(hp:ax N.nv p) (hs:Sa aY F h A n K p){k c:Nat}(h1:2<=k) (h2:k<=n) (hc:c<ap p k)
  (hK:∀A' n' K' ks h',Sa cI (λb=>h.next<=b) h' A' n' K' (ints ks)->fo N p k c ks->Nw h h'->Q (.slice A' n' K') h'):WC Tryz.prog 284 [.agg #[.slice A n K],.int .i64 k,.int .i64 c] h Q:=by
 have hn:n<=6:=by rw[<-hs.len];exact hp.few
 have hnv:=hp.nv_
 refine sL λh1' e1=>?_
 obtain⟨k1,g1,z1⟩:=aj e1
 have wk:IntKind.i64.wrap ((k:Int) - 1)=((k - 1:Nat):Int):=by rw[Int.natCast_sub (by omega)];exact ah (by omega) (by omega)
 refine⟨λh=>absurd h (by omega),λ_=>⟨_,_,_,dL (aa g1 rfl),_,wk,nT (hs.nw k1) (by omega) (by omega) (by omega) λA3 n3 K3 low h2' hlo s3 k2=>⟨_,_,_,rfl,_,_,_,dL (aa (k2.bk (by omega) g1) rfl),nT (hs.nw (k1.trans k2)) (by omega) (by omega) h2 λA5 n5 K5 row h3' hro s5 k3=>⟨_,_,_,rfl,?_⟩⟩⟩⟩
 obtain⟨hl,hx⟩:=cF hp hro
 obtain⟨hl3,hx3⟩:=cF hp hlo
 have hn5:n5=N.nv:=by rw[<-s5.len];exact hl
 have hn3:n3=N.nv:=by rw[<-s3.len];exact hl3
 subst hn5
 have k03:=(k1.trans k2).trans k3
 refine⟨λm A6 n6 K6 x h4=>∃i:Nat,x=i/\i<=N.nv/\m=N.nv - i/\bK h4 A6 n6 K6 (jv low row c i)/\(∀b,af A6 b->h3'.next<=b)/\Nw h3' h4,N.nv,⟨0,rfl,Nat.zero_le _,rfl,⟨rfl,.inl ⟨rfl,rfl,rfl⟩⟩,λb hb=>hb.elim,Nw.refl _⟩,?_⟩
 rintro m A6 n6 K6 x h4 ⟨i,rfl,hi,rfl,o4,lo4,k4⟩
 have hn6:n6<=N.nv:=by have:=o4.1;have:=tk low row c i;omega
 refine⟨λhlt=>?_,λhge=>?_⟩
 ·have w1:IntKind.i64.wrap ((i:Int)+1)=((i+1:Nat):Int):=by rw[Int.natCast_succ];exact ah (by omega) (by omega)
  obtain⟨b,o,y,hA5,-,-,hy,e0⟩:=(s5.nw k4).int (k:=i) (by omega)
  obtain⟨b3,o3,y3,hA3,-,-,hy3,e3⟩:=(s3.nw (k3.trans k4)).int (k:=i) (by omega)
  refine⟨i,rfl,b,o,hA5,by omega,_,e0,λhc=>⟨λ_=>⟨b3,o3,hA3,by omega,_,e3,λh5 e5=>?_⟩,λh=>absurd h (by omega)⟩,λhne=>⟨_,w1,N.nv - (i+1),by omega,i+1,rfl,by omega,rfl,?_,lo4,k4⟩⟩
  ·obtain⟨k5,g5,z5⟩:=aj e5
   obtain⟨A7,K7,h6,y1,y2,y3',y4,y5⟩:=(o4.keep (λb _ hb=>k5.get b hb) k5.next).app (L:=2) (aa g5 rfl) (by omega)
   have hk6:Nw h3' h6:=⟨by have:=k4.next;omega,λb hb=>(y4 b (by have:=k4.next;omega) (λho=>by have:=lo4 b ho;omega)).trans ((k5.get b (by have:=k4.next;omega)).trans (k4.get b hb))⟩
   refine⟨A7,n6+1,K7,h6,y1,_,w1,N.nv - (i+1),by omega,i+1,rfl,by omega,rfl,?_,λb hb=>(y5 b hb).elim (lo4 b) (λh=>by have:=k4.next;omega),hk6⟩
   show bK h6 A7 (n6+1) K7 (jv low row c (i+1))
   rw[jv,if_pos (by rw[hy,hc]),hy3]
   exact y2
  ·rw[jv,if_neg (by rw[hy];intro e;injection e with e;exact hne e)]
   exact o4
 ·obtain rfl:i=N.nv:=by omega
  obtain⟨v,hv,hvr⟩:=xG hp hro hc
  obtain⟨u,hu,-⟩:=hx3 v hv
  have hmem:u∈jv low row c N.nv:=(kg _).2 ⟨v,hv,hvr,hu⟩
  have hpos:0<n6:=by have:=o4.1;have:=List.length_pos_of_mem hmem;omega
  refine DS o4 hpos (by omega) λh7 o7 m7 z7=>⟨rfl,zB o7 (by omega) λm8 h8 o8 m8' z8=>⟨_,_,_,rfl,?_⟩⟩
  obtain⟨zs,hzs⟩:∃zs,(jv low row c N.nv).mergeSort (λx y=>decide (x<=y))=zs:=⟨_,rfl⟩
  rw[hzs]at o8
  have hsorted:zs.Pairwise (·<=·):=by
   rw[<-hzs]
   have:=List.pairwise_mergeSort (le:=λ(x y:Int)=>decide (x<=y)) (λa b c h1 h2=>by simp at *;omega) (λa b=>by simp;omega) (jv low row c N.nv)
   exact this.imp λh=>by simpa using h
  have hdm:∀x,x∈cm zs zs.length↔∃v,v<N.nv/\row[v]? = some (c:Int)/\low[v]? = some x:=λx=>by
   rw[ke,List.take_length,<-hzs,List.mem_mergeSort,kg]
  have hnn:∀x∈cm zs zs.length,0<=x:=λx hx=>by
   obtain⟨v,v1,v2,v3⟩:=(hdm x).1 hx
   obtain⟨y,hy,y0,-⟩:=hx3 v v1
   rw[hy]at v3
   injection v3 with v3
   omega
  have m48:Mt (af A6) h4 h8:=m7.then m8'
  refine hK A6 m8 K6 ((cm zs zs.length).map Int.toNat) h8 ?_ ⟨?_,λd=>?_⟩ (m48.is_nw (k03.trans k4) λb hb=>by have:=lo4 b hb;have:=k03.next;omega)
  ·rw[xF hnn]
   rcases o8.2 with⟨rfl,h1,rfl⟩ | ⟨g,c',rest,rfl,q1,q2,q3,q4,q5⟩
   ·exact⟨o8.1,.inl ⟨rfl,h1,rfl⟩,λh=>absurd h (by omega)⟩
   ·refine Sa.of_bk q5 o8.1 (by have:=lo4 g rfl;have:=k03.next;omega) q1 λj x hx=>?_
    have hj:=(List.getElem?_eq_some_iff.1 hx).1
    show((((cm zs zs.length).map (Value.int .i64) ++ rest).drop (j*1)).take 1) = [.int .i64 x]
    rw[Nat.mul_one]
    exact cR (by rw[List.getElem?_append_left (by simpa using hj)];simp[hx])
  ·rw[List.pairwise_map]
   have:=kf hsorted zs.length
   refine(List.Pairwise.and_mem.1 this).imp fun {a b} hab=>?_
   have h1:=hnn a hab.1
   have h2:=hab.2.2
   omega
  ·rw[List.mem_map]
   constructor
   ·rintro⟨x,hx,rfl⟩
    obtain⟨v,v1,v2,v3⟩:=(hdm x).1 hx
    exact⟨v,v1,by rw[cn hro v2];simp,by rw[cn hlo v3]⟩
   ·rintro⟨v,v1,v2,v3⟩
    obtain⟨x,hx',x0,-⟩:=hx v v1
    obtain⟨y,hy,y0,-⟩:=hx3 v v1
    rw[cn hro hx']at v2
    rw[cn hlo hy]at v3
    exact⟨y,(hdm y).2 ⟨v,v1,by rw[hx'];congr 1;omega,hy⟩,v3⟩
theorem DU {o:Nat}{N:ab}(O:OvA h F o N p){k c:Nat}(h1:2<=k) (h2:k<=p.length) (hc:c<ap p k)
  (hK:∀A' n' K' ks h',Sa cI (λb=>h.next<=b) h' A' n' K' (ints ks)->fo N p k c ks->Nw h h'->Q (.slice A' n' K') h'):WC Tryz.prog 224 [.pointer (some ⟨o,0,none⟩),.int .i64 k,.int .i64 c] h Q:=by
 obtain⟨A,n,K,c0,s⟩:=O.part
 exact kJ ⟨o,0,rfl,A,n,K,dL c0,DT O.hp s h1 (by rw[<-s.len];exact h2) hc λA' n' K' ks h' x1 x2 x3=>⟨_,_,_,rfl,hK A' n' K' ks h' x1 x2 x3⟩⟩
end
end Eva
end
section
open Go Go.RowKit
def ab.crB (N:ab) (p:List (List Int)) (k a:Nat):Bool:=decide (cel p k (N.fr a)≠cel p k (N.to a))
namespace Eva
section
variable {h h':AH}{Fa F Fp:Nat->Prop}{g:Nat}{N:ab}{p:List (List Int)}{Q:Value->AH->Prop}{A:Option Addr}{n K:Nat}
theorem vZ {nv k:Nat}(hp:ax nv p) (h1:1<=k) (hk:k<=p.length):ap p k<=nv:=by
 have hr:p[k - 1]? = some (p[k - 1]'(by omega)):=List.getElem?_eq_getElem _
 have hm:=List.mem_of_getElem? hr
 have:=cP (row:=p[k - 1]'(by omega)) (n:=(nv:Int)) (by omega) (λx hx=>(hp.inr _ hm x hx).2)
 unfold ap
 rw[hr]
 simp only[Option.getD_some]
 omega
theorem dX:nQ cI:=c9 _
theorem DV {k:Nat}{row:List Int}{F1:Nat->Prop}(G:GrA h Fa F g N) (hp:ax N.nv p) (hr:p[k - 1]? = some row) (hs:Sa cI F1 h A n K row){a:Nat}(ha:a<N.na)
  (hK:Q (.tuple #[.int .i64 ((cel p k (N.fr a):Nat):Int),.int .i64 ((cel p k (N.to a):Nat):Int),.bool true]) h):WC Tryz.prog 322 [.pointer (some ⟨g,0,none⟩),.slice A n K,.int .i64 a] h Q:=by
 obtain⟨hl,hx⟩:=cF hp hr
 have hn:n=N.nv:=by rw[<-hs.len];exact hl
 have h1:=(ab.fr_lt G.ok ha).1
 have h2:=(ab.to_lt G.ok ha).1
 refine uy (pV G ha ⟨_,rfl,aTo G ha ⟨_,rfl,λh=>absurd h (by omega),λ_=>⟨λh=>absurd h (by omega),λ_=>⟨λh=>absurd h (by omega),λ_=>⟨λh=>absurd h (by omega),λ_=>?_⟩⟩⟩⟩⟩)
 obtain⟨b,o,x,hA,-,-,hy,e0⟩:=hs.int (k:=N.fr a) (by omega)
 obtain⟨b',o',x',hA',-,-,hy',e0'⟩:=hs.int (k:=N.to a) (by omega)
 rw[hA]at hA'
 injection hA' with hA'
 injection hA' with hA1 hA2
 subst hA1 hA2
 obtain⟨u,hu,u0,-⟩:=hx _ h1
 obtain⟨v,hv,v0,-⟩:=hx _ h2
 rw[hy]at hu
 rw[hy']at hv
 obtain rfl:=Option.some.inj hu
 obtain rfl:=Option.some.inj hv
 refine⟨_,rfl,_,_,hA,by omega,_,e0,_,rfl,by omega,_,e0',?_⟩
 rw[cn hr hy,cn hr hy']at hK
 rwa [Int.toNat_of_nonneg u0,Int.toNat_of_nonneg v0]at hK
theorem C5 (G:GrA h Fa F g N) (hp:ax N.nv p) (hs:Sa aY Fp h A n K p){k:Nat}(h1:1<=k) (h2:k<=n)
  (hK:∀A' n' K' h',Sa cI (λb=>h.next<=b) h' A' n' K' (ints (bD (N.crB p k) N.na))->Nw h h'->Q (.slice A' n' K') h'):WC Tryz.prog 281 [.pointer (some ⟨g,0,none⟩),.agg #[.slice A n K],.int .i64 k] h Q:=by
 have hn:n<=6:=by rw[<-hs.len];exact hp.few
 have hna:=G.few.2
 refine sM λh1' e1=>?_
 obtain⟨k1,g1,z1⟩:=aj e1
 have row:∀{Q':Value->AH->Prop},(∀A' n' K' row h',p[k - 1]? = some row->Sa cI Fp h' A' n' K' row->Nw h1' h'->Q' (.slice A' n' K') h')->WC Tryz.prog 321 [.agg #[.slice A n K],.int .i64 k] h1' Q':=fun {Q'} hQ=>by
  refine wY λh2' e2=>?_
  obtain⟨k2,g2,z2⟩:=aj e2
  obtain⟨b,o,A',n',K',row,rfl,hF,hb,hr,e0,s0⟩:=(hs.nw (k1.trans k2)).row (k:=k - 1) (by omega)
  exact⟨λh=>absurd h (by omega),λ_=>⟨_,_,_,aa g2 rfl,λh=>absurd h (by omega),λ_=>⟨_,_,_,aa g2 rfl,_,ah (by omega) (by omega),k - 1,by omega,_,_,rfl,by omega,_,_,_,e0,hQ _ _ _ _ _ hr s0 k2⟩⟩⟩
 refine⟨_,_,_,dL (aa g1 rfl),row λA3 n3 K3 rw_ h3 hr s3 k3=>⟨_,_,_,rfl,pW (G.nw (k1.trans k3)) ⟨_,rfl,?_⟩⟩⟩
 have k13:=k1.trans k3
 refine⟨λm A4 n4 K4 x h4=>∃i:Nat,x=i/\i<=N.na/\m=N.na - i/\al cI h4 (af A4) 3 A4 n4 K4 (ints (bD (N.crB p k) i))/\(∀z,af A4 z->h3.next<=z)/\Nw h3 h4,N.na,⟨0,rfl,Nat.zero_le _,rfl,al.nil _ _ _ _,λz hz=>hz.elim,Nw.refl _⟩,?_⟩
 rintro m A4 n4 K4 x h4 ⟨i,rfl,hi,hm,o4,lo4,k4⟩
 have z13:=k13.next
 refine⟨λhlt=>DV (G.nw (k13.trans k4)) hp hr (s3.nw k4) (by omega) ⟨_,_,_,rfl,λ_=>⟨λhe=>?_,λhne=>?_⟩,λh=>Bool.noConfusion h⟩,λhge=>?_⟩
 ·have hcr:N.crB p k i=false:=by unfold ab.crB;simp;omega
  exact⟨_,(by rw[Int.natCast_succ];exact ah (by omega) (by omega):IntKind.i64.wrap ((i:Int)+1)=((i+1:Nat):Int)),N.na - (i+1),by omega,i+1,rfl,by omega,rfl,by rw[gf,hcr];exact o4,lo4,k4⟩
 ·have hcr:N.crB p k i=true:=by unfold ab.crB;simp;omega
  intro h6 e6
  obtain⟨k6,g6,z6⟩:=aj e6
  have hz:Sz cI (λz=>z=h4.next) h6 (some ⟨h4.next,0,none⟩) 1 2 [(i:Int)]:=Sz.one g6 rfl (by omega) rfl rfl
  have hl4:=o4.len
  have hlt4:n4<=1000:=by
   rw[<-hl4]
   have:=aC (N.crB p k) i
   simp only[ints,List.length_map]
   omega
  obtain⟨A',K',h7,y1,y2,y3,y4⟩:=aX dX dK (o4.nw k6) hz (by omega) (by omega)
  have z4:=k4.next
  refine⟨A',n4+1,K',h7,y1,_,(by rw[Int.natCast_succ];exact ah (by omega) (by omega):IntKind.i64.wrap ((i:Int)+1)=((i+1:Nat):Int)),N.na - (i+1),by omega,i+1,rfl,by omega,rfl,?_,λz hz=>(y4 z hz).elim (lo4 z) (λh=>by omega),y3.is_nw (k4.trans k6) lo4⟩
  rw[gf,hcr,if_pos rfl]
  unfold ints at y2⊢
  rw[List.map_append]
  exact y2
 ·obtain rfl:i=N.na:=by omega
  exact hK A4 n4 K4 h4 (o4.sa.mono λz hz _=>by have:=lo4 z hz;omega) (k13.trans k4)
end
end Eva
end
section
open Go Go.RowKit
theorem nU {α:Type}{f:Nat->α}{n k:Nat}(hk:k<n) (v:α):((List.range n).map f).set k v=(List.range n).map (upd f k v):=by
 apply List.ext_getElem?
 intro i
 rw[List.getElem?_set]
 by_cases e:k=i
 ·subst e
  simp[hk,upd]
 ·simp only[if_neg e,List.getElem?_map]
  by_cases hi:i<n
  ·simp[List.getElem?_range hi,upd,Ne.symm e]
  ·rw[List.getElem?_eq_none (by simpa using hi)];rfl
namespace Eva
theorem Bo (z:Value) (n:Nat):rep n [z,z]=List.replicate (n*2) z:=by
 induction n with
 | zero=>rfl
 | succ n ih=>
  rw[Nat.succ_mul]
  show [z,z] ++ rep n [z,z]=_
  rw[ih]
  rfl
structure fN (h:AH) (base b m:Nat) (t:TypeId) (L:Nat->List Nat):Prop where
 rows:∃(A:Nat->Option Addr) (n K:Nat->Nat),Bk h b ((List.range m).map λs=>Value.slice (A s) (n s) (K s)) t/\(∀s,s<m->al cI h (af (A s)) 3 (A s) (n s) (K s) (ints (L s)))/\(∀s z,s<m->af (A s) z->base<=z)/\(∀s s' z,s<m->s' < m->af (A s) z->af (A s') z->s=s')
 pos:b<base/\base<=h.next
section
variable {h h':AH}{base b m s:Nat}{t:TypeId}{L:Nat->List Nat}
theorem fN.new (hb:Bk h b (List.replicate m (.slice none 0 0)) t) (hlt:b<h.next):fN h h.next b m t (λ_=>[]):=by
 refine⟨⟨λ_=>none,λ_=>0,λ_=>0,?_,λs _=>al.nil _ _ _ _,λs z _ hz=>hz.elim,λs s' z _ _ hz=>hz.elim⟩,hlt,Nat.le_refl _⟩
 rw[List.map_const',List.length_range]
 exact hb
theorem fN.nw (S:fN h base b m t L) (a:Nw h h'):fN h' base b m t L:=by
 obtain⟨⟨A,n,K,h1,h2,h3,h4⟩,p1,p2⟩:=S
 have:=a.next
 exact⟨⟨A,n,K,a.bk (by omega) h1,λs hs=>(h2 s hs).nw a,h3,h4⟩,p1,by omega⟩
theorem fN.app (S:fN h base b m t L) (hs:s<m) (x:Nat) (hlen:(L s).length<=100000) :
  ∃A n K,ldC h b (0+s)=some (.slice A n K)/\∀h1,h1=AH.new h (.cells [.int .i64 (x:Int)] 3 false)->∃A' n' K' h2,ai Tryz.prog h1 (some (.slice 3)) (some (.slice 3)) (.slice A n K) (.slice (some ⟨h.next,0,none⟩) 1 2)=some (.slice A' n' K',h2)/\
   ∃h3,stC h2 b (0+s) [.slice A' n' K']=some h3/\fN h3 base b m t (upd L s (L s ++ [x]))/\Mt (λz=>z=b\/base<=z) h h3:=by
 obtain⟨⟨A,n,K,g1,g2,g3,g4⟩,p1,p2⟩:=S
 refine⟨A s,n s,K s,by rw[aP g1,Nat.zero_add];simp[hs],λh1 e1=>?_⟩
 obtain⟨k1,w1,z1⟩:=aj e1
 have hz:Sz cI (λz=>z=h.next) h1 (some ⟨h.next,0,none⟩) 1 2 [(x:Int)]:=Sz.one w1 rfl (by omega) rfl rfl
 have hl:=(g2 s hs).len
 have hl':n s<=100000:=by rw[<-hl];simpa[ints]using hlen
 obtain⟨A',K',h2,y1,y2,y3,y4⟩:=aX dX dK ((g2 s hs).nw k1) hz (by omega) (by omega)
 have z2:=y3.next
 have nb:∀s',s' < m->¬af (A s') b:=λs' hs' ho=>by have:=g3 s' b hs' ho;omega
 have b2:=y3.bk (by omega) (nb s hs) (k1.bk (by omega) g1)
 obtain⟨h3,s3,b3,z3,o3⟩:=aA (v:=.slice A' (n s+1) K') b2 (o:=0+s) (by simpa using hs) rfl
 have m3:Mt (λz=>z=b) h2 h3:=⟨by omega,λz _ hn=>o3 z hn⟩
 have nA':∀z,af A' z->z≠b/\base<=z:=λz hz=>(y4 z hz).elim (λh=>⟨λe=>nb s hs (e ▸ h),g3 s z hs h⟩) (λh=>⟨by omega,by omega⟩)
 refine⟨A',n s+1,K',h2,y1,h3,s3,⟨⟨upd A s A',upd n s (n s+1),upd K s K',?_,λs' hs'=>?_,λs' z hs' hz=>?_,λs' s'' z hs' hs'' h' h''=>?_⟩,p1,by omega⟩,⟨by omega,λz hz hn=>(o3 z (λe=>hn (.inl e))).trans ((y3.get z (by omega) (λho=>hn (.inr (g3 s z hs ho)))).trans (k1.get z hz))⟩⟩
 ·rw[Nat.zero_add,nU hs]at b3
  have e:(λs_1=>Value.slice (upd A s A' s_1) (upd n s (n s+1) s_1) (upd K s K' s_1))=upd (λs=>Value.slice (A s) (n s) (K s)) s (.slice A' (n s+1) K'):=by
   funext i
   unfold upd
   split <;>rfl
  rw[e]
  exact b3
 ·unfold upd
  by_cases e:s' = s
  ·subst e
   simp only[if_true]
   have:=y2.off m3 λz hz _ e=>(nA' z hz).1 e
   unfold ints at this⊢
   rw[List.map_append]
   exact this
  ·simp only[if_neg e]
   exact(((g2 s' hs').nw k1).off y3 λz hz _ ho=>e (g4 s' s z hs' hs hz ho)).off m3 λz hz _ e'=>nb s' hs' (e' ▸ hz)
 ·unfold upd at hz
  by_cases e:s' = s
  ·rw[if_pos e]at hz;exact(nA' z hz).2
  ·rw[if_neg e]at hz;exact g3 s' z hs' hz
 ·unfold upd at h' h''
  have cross:∀{a:Nat},a<m->a≠s->af (A a) z->af A' z->False:=fun {a} ha hne h1' h2'=>(y4 z h2').elim (λh=>hne (g4 a s z ha hs h1' h)) (λh=>by have:=(g2 a ha).own h1';omega)
  by_cases e:s' = s
  ·by_cases e':s'' = s
   ·omega
   ·rw[if_pos e]at h';rw[if_neg e']at h''
    exact(cross hs'' e' h'' h').elim
  ·by_cases e':s'' = s
   ·rw[if_neg e]at h';rw[if_pos e']at h''
    exact(cross hs' e h' h'').elim
   ·rw[if_neg e]at h';rw[if_neg e']at h''
    exact g4 s' s'' z hs' hs'' h' h''
theorem fN.gates {k K:Nat}(S:fN h base b (k*2) t L):Sa Rc.gate (λz=>z=b\/base<=z) h (some ⟨b,0,none⟩) k K ((List.range k).map λc=>(ints (L (c*2)),ints (L (c*2+1)))):=by
 obtain⟨⟨A,n,K',g1,g2,g3,g4⟩,p1,p2⟩:=S
 refine Sa.of_bk g1 (by simp) (.inl rfl) (by omega) λc x hx=>?_
 have hc:c<k:=by have:=(List.getElem?_eq_some_iff.1 hx).1;simpa using this
 have hx':x=(ints (L (c*2)),ints (L (c*2+1))):=by simp[hc]at hx;exact hx.symm
 subst hx'
 refine⟨A (c*2),n (c*2),K' (c*2),A (c*2+1),n (c*2+1),K' (c*2+1),?_,(g2 _ (by omega)).sa.mono λz hz _=>.inr (g3 _ z (by omega) hz),(g2 _ (by omega)).sa.mono λz hz _=>.inr (g3 _ z (by omega) hz)⟩
 apply List.ext_getElem?
 intro i
 show((((List.range (k*2)).map λs=>Value.slice (A s) (n s) (K' s)).drop (c*2)).take 2)[i]? = _
 rw[List.getElem?_take]
 by_cases hi:i<2
 ·rw[if_pos hi,List.getElem?_drop,List.getElem?_map,List.getElem?_range (by omega)]
  match i,hi with
  | 0,_=>rfl
  | 1,_=>rfl
 ·rw[if_neg hi,List.getElem?_eq_none (by simp;omega)]
end
end Eva
end
section
open Go Go.RowKit
namespace Eva
def cq (f:Nat->List Value) (n:Nat):List Value:=(List.range n).flatMap f
section
variable {f:Nat->List Value}{n s k j:Nat}
theorem bO (f:Nat->List Value) (n:Nat):cq f (n+1)=cq f n ++ f n:=by
 unfold cq
 rw[List.range_succ,List.flatMap_append]
 simp
theorem da (hf:∀k,(f k).length=s):∀n,(cq f n).length=n*s
 | 0=>by simp[cq]
 | n+1=>by rw[bO,List.length_append,da hf n,hf,Nat.succ_mul]
theorem jw {g:Nat->List Value}:∀n,(∀k,k<n->f k=g k)->cq f n=cq g n
 | 0,_=>rfl
 | n+1,h=>by rw[bO,bO,jw n λk hk=>h k (by omega),h n (by omega)]
theorem tm (hf:∀k,(f k).length=s){v:List Value}(hv:v.length=s):∀n,k<n->(cq f n).take (k*s) ++ v ++ (cq f n).drop (k*s+s)=cq (upd f k v) n
 | 0,h=>absurd h (by omega)
 | n+1,h=>by
  have hl:=da hf n
  rw[bO,bO]
  by_cases e:k=n
  ·subst e
   rw[List.take_append_of_le_length (by omega),List.take_of_length_le (by omega),List.drop_eq_nil_of_le (by rw[List.length_append,hf];omega),List.append_nil]
   have:cq (upd f k v) k=cq f k:=jw k λi hi=>by unfold upd;rw[if_neg (by omega)]
   rw[this]
   unfold upd
   rw[if_pos rfl]
  ·have hk:k<n:=by omega
   have hm:(k+1)*s<=n*s:=Nat.mul_le_mul_right _ hk
   rw[Nat.succ_mul]at hm
   rw[List.take_append_of_le_length (by omega),List.drop_append_of_le_length (by omega),<-List.append_assoc,tm hf hv n hk]
   have:upd f k v n=f n:=by unfold upd;rw[if_neg (by omega)]
   rw[this]
theorem tn (hf:∀k,(f k).length=s) (hj:j<s) (x:Value):∀n,k<n->(cq f n).set (k*s+j) x=cq (upd f k ((f k).set j x)) n
 | 0,h=>absurd h (by omega)
 | n+1,h=>by
  have hl:=da hf n
  rw[bO,bO]
  by_cases e:k=n
  ·subst e
   rw[List.set_append_right _ _ (by omega),hl,Nat.add_sub_cancel_left]
   have:cq (upd f k ((f k).set j x)) k=cq f k:=jw k λi hi=>by unfold upd;rw[if_neg (by omega)]
   rw[this]
   unfold upd
   rw[if_pos rfl]
  ·have hk:k<n:=by omega
   have hm:(k+1)*s<=n*s:=Nat.mul_le_mul_right _ hk
   rw[Nat.succ_mul]at hm
   rw[List.set_append_left _ _ (by omega),tn hf hj x n hk]
   have:upd f k ((f k).set j x) n=f n:=by unfold upd;rw[if_neg (by omega)]
   rw[this]
theorem ii (hf:∀k,(f k).length=s):∀n,k<n->((cq f n).drop (k*s)).take s=f k
 | 0,h=>absurd h (by omega)
 | n+1,h=>by
  have hl:=da hf n
  rw[bO]
  by_cases e:k=n
  ·subst e
   rw[List.drop_append_of_le_length (by omega),List.drop_eq_nil_of_le (by omega),List.nil_append,List.take_of_length_le (by rw[hf];omega)]
  ·have hk:k<n:=by omega
   have hm:(k+1)*s<=n*s:=Nat.mul_le_mul_right _ hk
   rw[Nat.succ_mul]at hm
   rw[List.drop_append_of_le_length (by omega),List.take_append_of_le_length (by rw[List.length_drop];omega),ii hf n hk]
theorem tp (hf:∀k,(f k).length=s) (hk:k<n) (hj:j<s):(cq f n)[k*s+j]? = (f k)[j]?:=by
 have h1:=ii hf n hk
 rw[<-h1,List.getElem?_take,if_pos hj,List.getElem?_drop]
theorem nV (l:List Value):∀n,rep n l=cq (λ_=>l) n
 | 0=>rfl
 | n+1=>by
  have e:∀n,cq (λ_=>l) (n+1)=l ++ cq (λ_=>l) n:=λn=>by
   induction n with
   | zero=>simp[cq]
   | succ n ih=>rw[bO,ih,List.append_assoc,<-bO,ih]
  rw[e]
  show l ++ rep n l=_
  rw[nV l n]
end
section
variable {h h1 h2:AH}{b:Nat}{t:TypeId}{f:Nat->List Value}{n s k j:Nat}
theorem uQ (hb:Bk h b (cq f n) t) (hf:∀k,(f k).length=s) (hk:k<n){v:List Value}(hv:v.length=s) (hfl:∀u∈v,flat u=true) :
  ∃h2,stC h b (0+k*s) v=some h2/\Bk h2 b (cq (upd f k v) n) t/\h2.next=h.next/\∀b',b'≠b->h2.get b' = h.get b':=by
 have hm:(k+1)*s<=n*s:=Nat.mul_le_mul_right _ hk
 rw[Nat.succ_mul]at hm
 refine⟨_,stN hb (by rw[da hf,Nat.zero_add,hv];exact hm) hfl,?_,rfl,λb' hb'=>by rw[get_put,if_neg hb']⟩
 rw[Bk,get_put,if_pos rfl,Nat.zero_add,hv,tm hf hv n hk]
theorem rr (hb:Bk h b (cq f n) t) (hf:∀k,(f k).length=s) (hk:k<n) (hj:j<s){x:Value}(hfl:flat x=true) :
  ∃h2,stC h b (0+k*s+j) [x]=some h2/\Bk h2 b (cq (upd f k ((f k).set j x)) n) t/\h2.next=h.next/\∀b',b'≠b->h2.get b' = h.get b':=by
 have hm:(k+1)*s<=n*s:=Nat.mul_le_mul_right _ hk
 rw[Nat.succ_mul]at hm
 obtain⟨h2,s2,b2,z2,o2⟩:=aA (v:=x) hb (o:=0+k*s+j) (by rw[da hf];omega) hfl
 rw[Nat.zero_add,tn hf hj x n hk]at b2
 exact⟨h2,s2,b2,z2,o2⟩
theorem uR {α:Type}{r:Rc α}{F:Nat->Prop}{o n K bytes:Nat}{xs:List α}(hr:nQ r) (hT:tyB Tryz.prog t r.size bytes=true) (hs:Sz r F h (some ⟨b,o,none⟩) n K xs) (hn:n*bytes<1000000) (hn':n<1000000) (e1:h1=AH.new h (.cells [] t false)) :
  ∃A' K' h',ai Tryz.prog h1 (some (.slice t)) (some (.slice t)) (.slice (some ⟨h.next,0,none⟩) 0 0) (.slice (some ⟨b,o,none⟩) n K)=some (.slice A' n K',h')/\al r h' (af A') t A' n K' xs/\Nw h h'/\(∀z,af A' z->h.next<=z):=by
 obtain⟨k1,g1,z1⟩:=aj e1
 have hB:al r h1 (af (some ⟨h.next,0,none⟩)) t (some ⟨h.next,0,none⟩) 0 (2*0) []:=al.lit (xs:=[]) (n:=0) g1 rfl (by omega) rfl (by simp) (by simp) (by simp)
 obtain⟨A',K',h',x1,x2,x3,x4⟩:=aX hr hT hB (hs.nw k1) (by rw[Nat.zero_add];omega) (by omega)
 rw[Nat.zero_add]at x1 x2
 rw[List.nil_append]at x2
 refine⟨A',K',h',x1,x2,x3.is_nw k1 λb hb=>?_,λb hb=>?_⟩
 ·have:b=h.next:=hb
  omega
 ·rcases x4 b hb with h2 | h2
  ·have:b=h.next:=h2
   omega
  ·omega
end
section
variable {h:AH}{Q:Value->AH->Prop}{F:Nat->Prop}{A:Option Addr}{n K:Nat}
theorem tq {xs:List Int}(hs:Sa cI F h A n K xs) (hn:n<=100000) (hK:∀A' K' h',al cI h' (af A') 2 A' n K' xs->Nw h h'->(∀b,af A' b->h.next<=b)->Q (.slice A' n K') h'):WC Tryz.prog 277 [.slice A n K] h Q:=by
 refine el ⟨λhA=>?_,λhA=>?_⟩
 ·obtain⟨h0,h1⟩:=hs.nil0 hA
  refine⟨h0,h1,?_⟩
  subst hA h0 h1
  have hx:xs = []:=List.eq_nil_of_length_eq_zero hs.len
  subst hx
  exact hK none 0 h (al.nil _ _ _ _) (Nw.refl _) (λb hb=>hb.elim)
 ·obtain⟨b,o,rfl⟩:=hs.some_ hA
  refine⟨b,o,rfl,λh1 e1=>?_⟩
  obtain⟨A',K',h',x1,x2,x3,x4⟩:=uR (r:=cI) (bytes:=8) (t:=2) dX (by kernel_rfl) hs.z (by omega) (by omega) e1
  exact⟨A',n,K',h',x1,hK _ _ _ x2 x3 x4⟩
theorem Bp {xs:List Tri}(hs:Sa aJ F h A n K xs) (hn:n<=4096) (hK:∀A' K' h',al aJ h' (af A') 272 A' n K' xs->Nw h h'->(∀b,af A' b->h.next<=b)->Q (.slice A' n K') h'):WC Tryz.prog 278 [.slice A n K] h Q:=by
 refine cZ ⟨λhA=>?_,λhA=>?_⟩
 ·obtain⟨h0,h1⟩:=hs.nil0 hA
  refine⟨h0,h1,?_⟩
  subst hA h0 h1
  have hx:xs = []:=List.eq_nil_of_length_eq_zero hs.len
  subst hx
  exact hK none 0 h (al.nil _ _ _ _) (Nw.refl _) (λb hb=>hb.elim)
 ·obtain⟨b,o,rfl⟩:=hs.some_ hA
  refine⟨b,o,rfl,λh1 e1=>?_⟩
  obtain⟨A',K',h',x1,x2,x3,x4⟩:=uR (r:=aJ) (bytes:=24) (t:=272) (eu _ _ _) (by kernel_rfl) hs.z (by omega) (by omega) e1
  exact⟨A',n,K',h',x1,hK _ _ _ x2 x3 x4⟩
theorem Bq {xs:List Tri}(hs:Sa aJ F h A n K xs) (hn:n<=16384) (hK:∀A' K' h',al aJ h' (af A') 285 A' n K' xs->Nw h h'->(∀b,af A' b->h.next<=b)->Q (.slice A' n K') h'):WC Tryz.prog 279 [.slice A n K] h Q:=by
 refine dp ⟨λhA=>?_,λhA=>?_⟩
 ·obtain⟨h0,h1⟩:=hs.nil0 hA
  refine⟨h0,h1,?_⟩
  subst hA h0 h1
  have hx:xs = []:=List.eq_nil_of_length_eq_zero hs.len
  subst hx
  exact hK none 0 h (al.nil _ _ _ _) (Nw.refl _) (λb hb=>hb.elim)
 ·obtain⟨b,o,rfl⟩:=hs.some_ hA
  refine⟨b,o,rfl,λh1 e1=>?_⟩
  obtain⟨A',K',h',x1,x2,x3,x4⟩:=uR (r:=aJ) (bytes:=24) (t:=285) (eu _ _ _) (by kernel_rfl) hs.z (by omega) (by omega) e1
  exact⟨A',n,K',h',x1,hK _ _ _ x2 x3 x4⟩
end
end Eva
end
section
open Go Go.RowKit
namespace Eva
theorem wrS {i:Nat}(h:i<=1000000):IntKind.i64.wrap ((i:Int)+1)=((i+1:Nat):Int):=by rw[Int.natCast_succ];exact ah (by omega) (by omega)
section
variable {h h':AH}{F Fa Fv Ft:Nat->Prop}{Q:Value->AH->Prop}{A Av Aa At:Option Addr}{n K nv Kv na Ka nt Kt:Nat}{xs:List Int}{vs xa:List Tri}{ts:List Tab}
theorem ij {c:Int}(hc:aL c=true) (hK:Q (.bool true) h):WC Tryz.prog 220 [.int .i64 c] h Q:=by
 unfold aL at hc
 have hc':=of_decide_eq_true hc
 exact iR ⟨λ_=>hK,λh1=>⟨λh2=>⟨λ_=>hK,λh3=>absurd hc' (by omega)⟩,λh2=>absurd hc' (by omega)⟩⟩
theorem DW {x:Int}(hx:ge x=true) (hK:Q (.bool false) h):WC Tryz.prog 274 [.int .i64 x] h Q:=by
 unfold ge at hx
 have hx':=of_decide_eq_true hx
 exact w6 ⟨λh=>absurd h (by omega),λ_=>⟨λh=>absurd h (by omega),λ_=>hK⟩⟩
theorem nW {a b:Int}(hs:Sz cI F h A n K xs) (ht:cg a b xs) (hK:∀h',Nw h h'->Q .nilIface h'):WC Tryz.prog 273 [.agg #[.int .i64 a,.int .i64 b,.slice A n K]] h Q:=by
 obtain⟨⟨a0,a1⟩,⟨b0,b1⟩,hl,hc⟩:=ht
 have hm:0<=a*b/\a*b<=16*16:=⟨Int.mul_nonneg a0 b0,Int.mul_le_mul a1 b1 b0 (by omega)⟩
 have hln:=hs.len
 refine qT λh1 e1=>?_
 obtain⟨k1,g1,z1⟩:=aj e1
 have hs1:=hs.nw k1
 refine⟨a,aa g1 rfl,b,aa g1 rfl,jS ⟨λh=>absurd h (by omega),λ_=>⟨λh=>absurd h (by omega),λ_=>⟨λh=>absurd h (by omega),λ_=>⟨λh=>absurd h (by omega),λ_=>⟨none,rfl,λ_=>⟨A,n,K,aa g1 rfl,a,aa g1 rfl,b,aa g1 rfl,_,ah (by omega) (by omega),λ_=>⟨A,n,K,aa g1 rfl,?_⟩,λh=>absurd (by omega) h⟩,λt u h=>by cases h⟩⟩⟩⟩⟩⟩
 refine⟨λm x h2=>∃i:Nat,x=i/\i<=n/\m=n - i/\h2=h1,n,⟨0,rfl,Nat.zero_le _,rfl,rfl⟩,?_⟩
 rintro m x h2 ⟨i,rfl,hi,hmi,rfl⟩
 refine⟨λhlt=>?_,λhge=>hK _ k1⟩
 obtain⟨b',o,y,hA,-,-,hy,e0⟩:=hs1.int (k:=i) (by omega)
 exact⟨i,rfl,b',o,hA,by omega,_,e0,ij (hc y (List.mem_of_getElem? hy)) ⟨_,rfl,λ_=>⟨_,wrS (by omega),n - (i+1),by omega,i+1,rfl,by omega,rfl,rfl⟩,λh=>Bool.noConfusion h⟩⟩
end
end Eva
end
section
open Go Go.RowKit
namespace Eva
abbrev dM:Rc Tab:=Rc.table
theorem aG {h:AH}{b o:Nat}{u v w:Value}(h0:ldC h b o=some u) (h1:ldC h b (o+1)=some v) (h2:ldC h b (o+2)=some w):ldN h b o 3=some [u,v,w]:=
 jt rfl (by omega) λj x hj=>by
  match j,hj with
  | 0,hj=>obtain rfl:=Option.some.inj hj;exact h0
  | 1,hj=>obtain rfl:=Option.some.inj hj;exact h1
  | 2,hj=>obtain rfl:=Option.some.inj hj;exact h2
section
variable {h h':AH}{Fa Fv Ft:Nat->Prop}{Q:Value->AH->Prop}{Av Aa At:Option Addr}{nv Kv na Ka nt Kt:Nat}{vs xa:List Tri}{ts:List Tab}
theorem DX (sv:Sa aJ Fv h Av nv Kv vs) (sa:Sa aJ Fa h Aa na Ka xa) (st:Sa dM Ft h At nt Kt ts) (ok:pH vs xa ts) (hK:∀h',Nw h h'->Q .nilIface h') :
  WC Tryz.prog 276 [.agg #[.slice Av nv Kv,.slice Aa na Ka,.slice At nt Kt]] h Q:=by
 have lv:=sv.len
 have la:=sa.len
 have lt:=st.len
 have hnv:=ok.nv
 have hna:=ok.na
 refine uz λh1 e1=>?_
 obtain⟨k1,g1,z1⟩:=aj e1
 refine⟨_,_,_,aa g1 rfl,by omega,λh2 e2=>?_⟩
 obtain⟨k2,g2,z2⟩:=aj e2
 refine⟨_,_,_,aa (k2.bk (by omega) g1) rfl,by omega,λh3 e3=>?_⟩
 obtain⟨k3,g3,z3⟩:=aj e3
 rw[a9]at g2 g3
 have k13:=(k1.trans k2).trans k3
 refine⟨_,_,_,aa ((k2.trans k3).bk (by omega) g1) rfl,λm x h4=>∃i:Nat,x=i/\i<=na/\m=na - i/\Bk h4 h1.next ((kR de xa nv i).map (Value.int .i64)) 3/\Bk h4 h2.next ((kR gH xa nv i).map (Value.int .i64)) 3/\Mt (λz=>z=h1.next\/z=h2.next) h3 h4,na,⟨0,rfl,Nat.zero_le _,rfl,?_,?_,Mt.refl _ _⟩,?_⟩
 ·rw[iw,List.map_replicate];exact k3.bk (by omega) g2
 ·rw[iw,List.map_replicate];exact g3
 rintro m x h4 ⟨i,rfl,hi,hm,b4,c4,m4⟩
 have z4:=m4.next
 have k14:Nw h h4:=m4.is_nw k13 λz hz=>by omega
 have g14:Bk h4 h.next [.slice Av nv Kv,.slice Aa na Ka,.slice At nt Kt] 209:=m4.bk (by omega) (by omega) ((k2.trans k3).bk (by omega) g1)
 refine⟨λhlt=>?_,λhge=>?_⟩
 ·obtain⟨b,o,x,y,z,hA,-,-,hx,e0,e1',e2'⟩:=(sa.nw k14).tri (k:=i) (by omega)
  obtain⟨⟨a0,a1⟩,⟨a2,a3⟩,-⟩:=ok.arcs_ _ (List.mem_of_getElem? hx)
  simp only at a0 a1 a2 a3
  obtain⟨u,rfl⟩:=Int.eq_ofNat_of_zero_le a0
  obtain⟨v,rfl⟩:=Int.eq_ofNat_of_zero_le a2
  have hu:u<nv:=by omega
  have hv:v<nv:=by omega
  have c1:=ra de xa i v
  have c2:=ra gH xa i u
  refine⟨i,rfl,b,o,hA,by omega,_,_,_,aG e0 e1' e2',λh5 e5=>?_⟩
  obtain⟨h6,s6,k6,g6,z6⟩:=ay (vs:=[.int .i64 (u:Int),.int .i64 (v:Int),.int .i64 z]) e5 rfl (by simp[flat])
  have b6:=k6.bk (by omega) b4
  obtain⟨h7,s7,b7,z7,o7⟩:=aA (v:=.int .i64 (((xa.take i).countP (λa=>de a == (v:Int)):Int)+1)) b6 (o:=0+v) (by simp[jV];omega) rfl
  have c7:=(o7 _ (by omega)).trans (k6.bk (by omega) c4)
  have g7:=(o7 _ (by omega)).trans g6
  obtain⟨h8,s8,b8,z8,o8⟩:=aA (v:=.int .i64 (((xa.take i).countP (λa=>gH a == (u:Int)):Int)+1)) c7 (o:=0+u) (by simp[jV];omega) rfl
  refine⟨h6,s6,_,aa g6 rfl,v,rfl,hv,(((xa.take i).countP (λa=>de a == (v:Int)):Nat):Int),?_,_,ah (by omega) (by omega),hv,h7,s7,_,aa g7 rfl,u,rfl,hu,(((xa.take i).countP (λa=>gH a == (u:Int)):Nat):Int),?_,_,ah (by omega) (by omega),hu,h8,s8,_,wrS (by omega),na - (i+1),by omega,i+1,rfl,by omega,rfl,?_,?_,?_⟩
  ·rw[aP b6,Nat.zero_add,List.getElem?_map,dD hv];rfl
  ·rw[aP c7,Nat.zero_add,List.getElem?_map,dD hu];rfl
  ·rw[iy (f:=de) hx rfl hv,List.map_set]
   rw[Nat.zero_add]at b7
   exact(o8 _ (by omega)).trans b7
  ·rw[iy (f:=gH) hx rfl hu,List.map_set]
   rw[Nat.zero_add]at b8
   exact b8
  ·exact⟨by omega,λz hz hn=>(o8 z (λe=>hn (.inr e))).trans ((o7 z (λe=>hn (.inl e))).trans ((k6.get z (by omega)).trans (m4.get z hz hn)))⟩
 ·obtain rfl:i=na:=by omega
  refine⟨_,_,_,aa g14 rfl,λm x h9=>∃j:Nat,x=j/\j<=nv/\m=nv - j/\Nw h4 h9,nv,⟨0,rfl,Nat.zero_le _,rfl,Nw.refl _⟩,?_⟩
  rintro m' x h9 ⟨j,rfl,hj,hm',k9⟩
  refine⟨λhlt=>?_,λhge'=>hK h9 (k14.trans k9)⟩
  have kk:=k14.trans k9
  obtain⟨b,o,x,y,z,hA,-,-,hx,e0,e1',e2'⟩:=(sv.nw kk).tri (k:=j) (by omega)
  obtain⟨-,-,q0,q1⟩:=ok.verts_ _ (List.mem_of_getElem? hx)
  simp only at q0 q1
  obtain⟨ty,rfl⟩:=Int.eq_ofNat_of_zero_le q0
  refine⟨j,rfl,b,o,hA,by omega,_,_,_,aG e0 e1' e2',λh10 e10=>?_⟩
  obtain⟨h11,s11,k11,g11,z11⟩:=ay (vs:=[.int .i64 x,.int .i64 y,.int .i64 (ty:Int)]) e10 rfl (by simp[flat])
  obtain⟨b',o',p,q,A',n',K',zs,hA',-,-,ht,f0,f1,f2,-⟩:=(st.nw (kk.trans k11)).table (k:=ty) (by omega)
  obtain⟨d1,d2,d3,d4⟩:=ok.deg j _ _ hx ht
  simp only at d3 d4
  refine⟨h11,s11,_,_,_,aa ((k9.trans k11).bk (by omega) g14) rfl,_,aa g11 rfl,ty,rfl,b',o',hA',by omega,_,_,_,_,_,aG f0 f1 f2,λh12 e12=>?_⟩
  obtain⟨h13,s13,k13',g13,z13⟩:=ay (vs:=[.int .i64 p,.int .i64 q,.slice A' n' K']) e12 rfl (by simp[flat])
  have z9:=k9.next
  have kb:=(k9.trans k11).trans k13'
  have hin:xa.take i=xa:=List.take_of_length_le (by omega)
  have r1:ldC h13 h1.next (0+j)=some (.int .i64 ((xa.countP (λa=>de a == (j:Int)):Nat):Int)):=by
   rw[aP (kb.bk (by omega) b4),Nat.zero_add,List.getElem?_map,dD (by omega),hin];rfl
  have r2:ldC h13 h2.next (0+j)=some (.int .i64 ((xa.countP (λa=>gH a == (j:Int)):Nat):Int)):=by
   rw[aP (kb.bk (by omega) c4),Nat.zero_add,List.getElem?_map,dD (by omega),hin];rfl
  exact⟨h13,s13,by omega,_,r1,λh=>absurd h (by omega),λ_=>⟨by omega,_,r2,λh=>absurd h (by omega),λ_=>⟨p,aa g13 rfl,by omega,_,r1,λ_=>⟨q,aa g13 rfl,by omega,_,r2,λ_=>⟨_,wrS (by omega),nv - (j+1),by omega,j+1,rfl,by omega,rfl,kb⟩,λh=>absurd d4 h⟩,λh=>absurd d3 h⟩⟩⟩
theorem wa {x:Int}(hx:0<=x/\x<nv) (hK:∀h',Nw h h'->Q (.bool true) h'):WC Tryz.prog 275 [.agg #[.slice Av nv Kv,.slice Aa na Ka,.slice At nt Kt],.int .i64 x] h Q:=by
 refine qU λh1 e1=>?_
 obtain⟨k1,g1,z1⟩:=aj e1
 exact⟨λ_=>⟨_,_,_,aa g1 rfl,λ_=>hK _ k1,λh=>absurd hx.2 h⟩,λh=>absurd hx.1 h⟩
theorem xH (sv:Sa aJ Fv h Av nv Kv vs) (sa:Sa aJ Fa h Aa na Ka xa) (st:Sa dM Ft h At nt Kt ts) (ok:pH vs xa ts) (hK:∀h',Nw h h'->Q .nilIface h') :
  WC Tryz.prog 212 [.agg #[.slice Av nv Kv,.slice Aa na Ka,.slice At nt Kt]] h Q:=by
 have lv:=sv.len
 have la:=sa.len
 have lt:=st.len
 have hnv:=ok.nv
 have hna:=ok.na
 have hnt:=ok.nt
 refine sO λh1 e1=>?_
 obtain⟨k1,g1,z1⟩:=aj e1
 have bx:∀{h'},Nw h1 h'->Bk h' h.next [.slice Av nv Kv,.slice Aa na Ka,.slice At nt Kt] 209:=λa=>a.bk (by omega) g1
 have bN:∀{h'},Nw h1 h'->ldN h' h.next 0 3=some [.slice Av nv Kv,.slice Aa na Ka,.slice At nt Kt]:=λa=>aG (aa (bx a) rfl) (aa (bx a) rfl) (aa (bx a) rfl)
 refine⟨_,_,_,aa g1 rfl,λh=>absurd h (by omega),λ_=>⟨_,_,_,aa g1 rfl,λh=>absurd h (by omega),λ_=>⟨_,_,_,aa g1 rfl,λh=>absurd h (by omega),λ_=>⟨_,_,_,aa g1 rfl,λm x h5=>∃i:Nat,x=i/\i<=nt/\m=nt - i/\Nw h1 h5,nt,⟨0,rfl,Nat.zero_le _,rfl,Nw.refl _⟩,?_⟩⟩⟩⟩
 rintro m x h5 ⟨i,rfl,hi,hm,k5⟩
 refine⟨λhlt=>?_,λhge=>?_⟩
 ·obtain⟨b',o',p,q,A',n',K',zs,hA',-,-,ht,f0,f1,f2,sz⟩:=(st.nw (k1.trans k5)).table (k:=i) (by omega)
  refine⟨i,rfl,b',o',hA',by omega,_,_,_,_,_,aG f0 f1 f2,λh6 e6=>?_⟩
  obtain⟨h7,s7,k7,g7,z7⟩:=ay (vs:=[.int .i64 p,.int .i64 q,.slice A' n' K']) e6 rfl (by simp[flat])
  exact⟨h7,s7,_,_,_,_,_,aG (aa g7 rfl) (aa g7 rfl) (aa g7 rfl),nW (sz.nw k7).z (ok.types_ _ (List.mem_of_getElem? ht)) λh8 k8=>⟨none,rfl,λ_=>⟨_,wrS (by omega),nt - (i+1),by omega,i+1,rfl,by omega,rfl,(k5.trans k7).trans k8⟩,λt u h=>by cases h⟩⟩
 ·refine⟨_,_,_,aa (bx k5) rfl,λm x h10=>∃j:Nat,x=j/\j<=nv/\m=nv - j/\Nw h1 h10,nv,⟨0,rfl,Nat.zero_le _,rfl,k5⟩,?_⟩
  rintro m' x h10 ⟨j,rfl,hj,hm',k10⟩
  refine⟨λhlt=>?_,λhge'=>?_⟩
  ·obtain⟨b,o,x,y,z,hA,-,-,hx,e0,e1',e2'⟩:=(sv.nw (k1.trans k10)).tri (k:=j) (by omega)
   obtain⟨q2,q3,q0,q1⟩:=ok.verts_ _ (List.mem_of_getElem? hx)
   simp only at q0 q1 q2 q3
   refine⟨j,rfl,b,o,hA,by omega,_,_,_,aG e0 e1' e2',λh11 e11=>?_⟩
   obtain⟨h12,s12,k12,g12,z12⟩:=ay (vs:=[.int .i64 x,.int .i64 y,.int .i64 z]) e11 rfl (by simp[flat])
   exact⟨h12,s12,x,aa g12 rfl,DW q2 ⟨_,rfl,λh=>Bool.noConfusion h,λ_=>⟨y,aa g12 rfl,DW q3 ⟨_,rfl,λh=>Bool.noConfusion h,λ_=>⟨z,aa g12 rfl,λh=>absurd h (by omega),λ_=>⟨z,aa g12 rfl,_,_,_,aa (bx (k10.trans k12)) rfl,λh=>absurd h (by omega),λ_=>⟨_,wrS (by omega),nv - (j+1),by omega,j+1,rfl,by omega,rfl,k10.trans k12⟩⟩⟩⟩⟩⟩⟩
  ·refine⟨_,_,_,aa (bx k10) rfl,λm x h19=>∃j:Nat,x=j/\j<=na/\m=na - j/\Nw h1 h19,na,⟨0,rfl,Nat.zero_le _,rfl,k10⟩,?_⟩
   rintro m3 x h19 ⟨l,rfl,hl,hm3,k19⟩
   refine⟨λhlt=>?_,λhge3=>?_⟩
   ·obtain⟨b,o,x,y,z,hA,-,-,hx,e0,e1',e2'⟩:=(sa.nw (k1.trans k19)).tri (k:=l) (by omega)
    obtain⟨a01,a23,aw⟩:=ok.arcs_ _ (List.mem_of_getElem? hx)
    simp only at a01 a23 aw
    refine⟨l,rfl,b,o,hA,by omega,_,_,_,aG e0 e1' e2',λh20 e20=>?_⟩
    obtain⟨h21,s21,k21,g21,z21⟩:=ay (vs:=[.int .i64 x,.int .i64 y,.int .i64 z]) e20 rfl (by simp[flat])
    exact⟨h21,s21,_,_,_,_,_,_,_,_,_,bN (k19.trans k21),x,aa g21 rfl,wa (by omega) λh22 k22=>⟨_,rfl,λ_=>⟨_,_,_,_,_,_,_,_,_,bN ((k19.trans k21).trans k22),y,aa (k22.bk (by omega) g21) rfl,wa (by omega) λh23 k23=>⟨_,rfl,λ_=>⟨z,aa ((k22.trans k23).bk (by omega) g21) rfl,ij aw ⟨_,rfl,λ_=>⟨_,wrS (by omega),na - (l+1),by omega,l+1,rfl,by omega,rfl,((k19.trans k21).trans k22).trans k23⟩,λh=>Bool.noConfusion h⟩⟩,λh=>Bool.noConfusion h⟩⟩,λh=>Bool.noConfusion h⟩⟩
   ·have kk:=k1.trans k19
    exact⟨_,_,_,_,_,_,_,_,_,bN k19,DX (sv.nw kk) (sa.nw kk) (st.nw kk) ok λh28 k28=>⟨none,rfl,hK _ (kk.trans k28)⟩⟩
end
end Eva
end
section
open Go Go.RowKit
namespace Eva
section
variable {h h':AH}{Fa Fv Ft:Nat->Prop}{Q:Value->AH->Prop}{Av Aa At:Option Addr}{nv Kv na Ka nt Kt:Nat}{vs xa:List Tri}{ts:List Tab}
theorem zC {k:Nat}{p q:Int}{A:Option Addr}{n K:Nat}{f:Nat->List Value}(hf:∀k,(f k).length=3):∀j,(upd f k [.int .i64 p,.int .i64 q,.slice A n K] j).length=3:=λj=>by
 unfold upd
 split
 ·rfl
 ·exact hf j
theorem wd (sv:Sa aJ Fv h Av nv Kv vs) (sa:Sa aJ Fa h Aa na Ka xa) (st:Sa dM Ft h At nt Kt ts) (ok:pH vs xa ts)
  (hK:∀D3 A1 K1 A2 K2 A3 K3 h',Sa aJ (λz=>h.next<=z/\¬af A2 z/\¬D3 z) h' A1 nv K1 vs->al aJ h' (af A2) 285 A2 na K2 xa->al dM h' D3 271 A3 nt K3 ts->(∀z,af A2 z->h.next<=z/\¬D3 z)->(∀z,D3 z->h.next<=z)->Nw h h'->Q (.agg #[.slice A1 nv K1,.slice A2 na K2,.slice A3 nt K3]) h') :
  WC Tryz.prog 214 [.agg #[.slice Av nv Kv,.slice Aa na Ka,.slice At nt Kt]] h Q:=by
 have lv:=sv.len
 have la:=sa.len
 have lt:=st.len
 have hnv:=ok.nv
 have hna:=ok.na
 have hnt:=ok.nt
 have st':Sa dM (λz=>z<h.next) h At nt Kt ts:=st.mono λz _ hz=>hz
 have sv':Sa aJ (λz=>z<h.next) h Av nv Kv vs:=sv.mono λz _ hz=>hz
 have sa':Sa aJ (λz=>z<h.next) h Aa na Ka xa:=sa.mono λz _ hz=>hz
 refine oN λh1 e1 h2 e2=>?_
 obtain⟨k1,g1,z1⟩:=aj e1
 obtain⟨k2,g2,z2⟩:=aj e2
 refine⟨_,_,_,aa (k2.bk (by omega) g1) rfl,by omega,λh3 e3=>?_⟩
 obtain⟨k3,g3,z3⟩:=aj e3
 rw[nV]at g3
 have k13:=(k1.trans k2).trans k3
 refine⟨_,_,_,aa ((k2.trans k3).bk (by omega) g1) rfl,λm x h4=>∃(i:Nat) (f:Nat->List Value),x=i/\i<=nt/\m=nt - i/\(∀k,(f k).length=3)/\Bk h4 h2.next (cq f nt) 271/\(∀k x,k<i->ts[k]? = some x->dM.rel (λz=>h3.next<=z) h4 (f k) x)/\Mt (λz=>z=h2.next) h3 h4,nt,⟨0,_,rfl,Nat.zero_le _,rfl,λ_=>rfl,g3,λk x hk=>absurd hk (by omega),Mt.refl _ _⟩,?_⟩
 rintro m x h4 ⟨i,f,rfl,hi,hm,hf,b4,r4,m4⟩
 have z4:=m4.next
 have k14:Nw h h4:=m4.is_nw k13 λz hz=>by omega
 have g14:Bk h4 h.next [.slice Av nv Kv,.slice Aa na Ka,.slice At nt Kt] 209:=m4.bk (by omega) (by omega) ((k2.trans k3).bk (by omega) g1)
 have g24:Bk h4 h1.next [.slice none 0 0,.slice none 0 0,.slice none 0 0] 209:=m4.bk (by omega) (by omega) (k3.bk (by omega) g2)
 refine⟨λhlt=>?_,λhge=>?_⟩
 ·obtain⟨b',o',p,q,A',n',K',zs,hA',-,-,ht,f0,f1,f2,sz⟩:=(st'.nw k14).table (k:=i) (by omega)
  have tok:=ok.types_ _ (List.mem_of_getElem? ht)
  have hzl:=sz.len
  have hm16:0<=p*q/\p*q<=16*16:=⟨Int.mul_nonneg tok.ins_.1 tok.outs_.1,Int.mul_le_mul tok.ins_.2 tok.outs_.2 tok.outs_.1 (by omega)⟩
  have htl:(zs.length:Int)=p*q:=tok.len
  refine⟨i,rfl,b',o',hA',by omega,_,_,_,_,_,aG f0 f1 f2,λh5 e5=>?_⟩
  obtain⟨h6,s6,k6,g6,z6⟩:=ay (vs:=[.int .i64 p,.int .i64 q,.slice A' n' K']) e5 rfl (by simp[flat])
  obtain⟨h7,s7,b7,z7,o7⟩:=uQ (k6.bk (by omega) b4) hf (k:=i) (by omega) (v:=[.int .i64 p,.int .i64 q,.slice A' n' K']) rfl (by simp[flat])
  have g7:=(o7 _ (by omega)).trans g6
  have m7:Mt (λz=>z=h2.next) h6 h7:=⟨by omega,λz _ hn=>o7 z hn⟩
  have hf7:=zC (k:=i) (p:=p) (q:=q) (A:=A') (n:=n') (K:=K') hf
  refine⟨h6,s6,_,_,_,_,_,aG (aa g6 rfl) (aa g6 rfl) (aa g6 rfl),by omega,h7,s7,_,_,_,aa g7 rfl,tq ((sz.nw k6).off m7 λz hz e=>by omega) (by omega) λA9 K9 h8 o8 k8 lo8=>?_⟩
  obtain⟨h9,s9,b9,z9,o9⟩:=rr (k8.bk (by omega) b7) hf7 (k:=i) (j:=2) (by omega) (by omega) (x:=.slice A9 n' K9) rfl
  have m9:Mt (λz=>z=h2.next) h8 h9:=⟨by omega,λz _ hn=>o9 z hn⟩
  have z8:=k8.next
  have m49:Mt (λz=>z=h2.next) h4 h9:=(((Mt.of k6).then m7).nw k8).then m9
  refine⟨A9,n',K9,rfl,by omega,h9,s9,_,wrS (by omega),nt - (i+1),by omega,i+1,_,rfl,by omega,rfl,?_,b9,λk x hk hx=>?_,m4.then m49⟩
  ·intro j
   unfold upd
   split
   ·rw[if_pos rfl];rfl
   ·exact hf j
  ·by_cases e:k=i
   ·subst e
    obtain rfl:=Option.some.inj (ht.symm.trans hx)
    refine⟨A9,n',K9,?_,(o8.off m9 λz hz _ e=>by have:=lo8 z hz;omega).sa.mono λz hz _=>by have:=lo8 z hz;omega⟩
    unfold upd
    simp
   ·have h9':=dM.keep (h':=h9) (λz (hz:h3.next<=z) hlt=>m49.get z hlt (by omega)) m49.next (r4 k x (by omega) hx)
    have e1:∀(v:List Value) (g:Nat->List Value),upd g i v k=g k:=λv g=>by unfold upd;rw[if_neg e]
    rw[e1,e1]
    exact h9'
 ·obtain rfl:i=nt:=by omega
  refine⟨_,_,_,aa g14 rfl,_,_,_,aa g14 rfl,Bp (sv'.nw k14) (by omega) λA12 K12 h10 o10 k10 lo10=>⟨_,_,_,rfl,aa (k10.bk (by omega) g14) rfl,sa.eqok,Bq (sa'.nw (k14.trans k10)) (by omega) λA13 K13 h11 o11 k11 lo11=>⟨_,_,_,rfl,?_⟩⟩⟩
  have z10:=k10.next
  have z11:=k11.next
  have kk:=k10.trans k11
  obtain⟨h12,s12,b12,z12,q12⟩:=bI (vs:=[.slice A12 nv K12,.slice A13 na K13,.slice (some ⟨h2.next,0,none⟩) i (cx i)]) (kk.bk (by omega) g24) rfl (by simp[flat])
  have m12:Mt (λz=>z=h1.next) h11 h12:=⟨by omega,λz _ hn=>q12 z hn⟩
  refine⟨h12,s12,_,_,_,_,_,_,_,_,_,aG (aa b12 rfl) (aa b12 rfl) (aa b12 rfl),hK (λz=>z=h2.next\/(h3.next<=z/\z<h4.next)) _ _ _ _ _ _ h12 ?_ ?_ ?_ (λz hz=>by have:=lo11 z hz;omega) (λz hz=>by omega) (m12.is_nw (k14.trans kk) λz hz=>by omega)⟩
  ·refine((((o10.sa.mono λz hz hlt=>(⟨lo10 z hz,hlt⟩:h4.next<=z/\z<h10.next)).nw k11).off m12 λz hz e=>by omega)).mono λz hz _=>⟨by omega,λho=>by have:=lo11 z ho;omega,λhd=>by omega⟩
  ·exact o11.off m12 λz hz _ e=>by have:=lo11 z hz;omega
  ·have hrel:∀k x,k<i->ts[k]? = some x->dM.rel (λz=>(z=h2.next\/(h3.next<=z/\z<h4.next))/\z≠h2.next) h12 (f k) x:=λk x hk hx=>by
    have r1:=dM.mono (G:=λz=>h3.next<=z/\z<h4.next) (λz (hz:h3.next<=z) hlt=>⟨hz,hlt⟩) (r4 k x hk hx)
    have m412:Mt (λz=>z=h1.next) h4 h12:=(Mt.of kk).then m12
    have r2:=dM.keep (h':=h12) (λz (hz:h3.next<=z/\z<h4.next) hlt=>m412.get z hlt (by omega)) m412.next r1
    exact dM.mono (λz (hz:h3.next<=z/\z<h4.next) _=>⟨.inr hz,by omega⟩) r2
   refine al.lit (m12.bk (by omega) (by omega) (kk.bk (by omega) b4)) (.inl rfl) (by omega) lt (by rw[da hf];rfl) (λu hu=>?_) λk x hx=>?_
   ·obtain⟨k,hk,hu⟩:=List.mem_flatMap.1 hu
    have hk':k<i:=by simpa using hk
    have hx:ts[k]? = some (ts[k]'(by omega)):=List.getElem?_eq_getElem _
    exact dM.flat (hrel k _ hk' hx) u hu
   have hk:k<i:=by have:=(List.getElem?_eq_some_iff.1 hx).1;omega
   show dM.rel _ h12 (((cq f i).drop (k*3)).take 3) x
   rw[ii hf i hk]
   exact hrel k x hk hx
end
end Eva
end
section
open Go Go.RowKit
namespace Eva
structure bS (h:AH) (W:Nat->Prop) (b m:Nat) (t:TypeId) (L:Nat->List Nat):Prop where
 rows:∃(A:Nat->Option Addr) (K:Nat->Nat),Bk h b ((List.range m).map λs=>Value.slice (A s) (L s).length (K s)) t/\(∀s,s<m->al cI h (af (A s)) 3 (A s) (L s).length (K s) (ints (L s)))/\(∀s z,s<m->af (A s) z->W z)/\(∀s s' z,s<m->s' < m->af (A s) z->af (A s') z->s=s')
 pos:b<h.next/\∀z,W z->z≠b/\z<h.next
section
variable {h h':AH}{b m s:Nat}{W:Nat->Prop}{t:TypeId}{L:Nat->List Nat}
theorem bS.new (hb:Bk h b (List.replicate m (.slice none 0 0)) t) (hlt:b<h.next):bS h (λ_=>False) b m t (λ_=>[]):=by
 refine⟨⟨λ_=>none,λ_=>0,?_,λs _=>al.nil _ _ _ _,λs z _ hz=>hz.elim,λs s' z _ _ hz=>hz.elim⟩,hlt,λz hz=>hz.elim⟩
 show Bk h b ((List.range m).map λ_=>Value.slice none 0 0) t
 rw[List.map_const',List.length_range]
 exact hb
theorem bS.off (S:bS h W b m t L){M:Nat->Prop}(a:Mt M h h') (hb:¬M b) (hW:∀z,W z->¬M z):bS h' W b m t L:=by
 obtain⟨⟨A,K,h1,h2,h3,h4⟩,p1,p2⟩:=S
 have:=a.next
 exact⟨⟨A,K,a.bk (by omega) hb h1,λs hs=>(h2 s hs).off a λz hz _=>hW z (h3 s z hs hz),h3,h4⟩,by omega,λz hz=>⟨(p2 z hz).1,by have:=(p2 z hz).2;omega⟩⟩
theorem bS.nw (S:bS h W b m t L) (a:Nw h h'):bS h' W b m t L:=S.off (M:=λ_=>False) (.of a) (λh=>h) (λ_ _ h=>h)
theorem bS.get (S:bS h W b m t L) (hs:s<m):∃A K,ldC h b (0+s)=some (.slice A (L s).length K):=by
 obtain⟨⟨A,K,h1,h2,h3,h4⟩,p1,p2⟩:=S
 exact⟨A s,K s,by rw[aP h1,Nat.zero_add];simp[hs]⟩
theorem bS.app (S:bS h W b m t L) (hs:s<m) (x:Nat) (hlen:(L s).length<=100000) :
  ∃A K,ldC h b (0+s)=some (.slice A (L s).length K)/\∀h1,h1=AH.new h (.cells [.int .i64 (x:Int)] 3 false)->∃A' n' K' h2,ai Tryz.prog h1 (some (.slice 3)) (some (.slice 3)) (.slice A (L s).length K) (.slice (some ⟨h.next,0,none⟩) 1 2)=some (.slice A' n' K',h2)/\Mt W h h2/\
   ∃h3,stC h2 b (0+s) [.slice A' n' K']=some h3/\bS h3 (λz=>W z\/(h.next<=z/\z<h3.next)) b m t (upd L s (L s ++ [x]))/\Mt (λz=>z=b\/W z) h h3:=by
 obtain⟨⟨A,K,g1,g2,g3,g4⟩,p1,p2⟩:=S
 refine⟨A s,K s,by rw[aP g1,Nat.zero_add];simp[hs],λh1 e1=>?_⟩
 obtain⟨k1,w1,z1⟩:=aj e1
 have hz:Sz cI (λz=>z=h.next) h1 (some ⟨h.next,0,none⟩) 1 2 [(x:Int)]:=Sz.one w1 rfl (by omega) rfl rfl
 obtain⟨A',K',h2,y1,y2,y3,y4⟩:=aX dX dK ((g2 s hs).nw k1) hz (by omega) (by omega)
 have z2:=y3.next
 have nb:∀s',s' < m->¬af (A s') b:=λs' hs' ho=>(p2 b (g3 s' b hs' ho)).1 rfl
 have b2:=y3.bk (by omega) (nb s hs) (k1.bk (by omega) g1)
 obtain⟨h3,s3,b3,z3,o3⟩:=aA (v:=.slice A' ((L s).length+1) K') b2 (o:=0+s) (by simpa using hs) rfl
 have m3:Mt (λz=>z=b) h2 h3:=⟨by omega,λz _ hn=>o3 z hn⟩
 have nA':∀z,af A' z->z≠b/\(W z\/(h.next<=z/\z<h3.next)):=λz hz=>(y4 z hz).elim (λh=>⟨λe=>nb s hs (e ▸ h),.inl (g3 s z hs h)⟩) (λh=>⟨by omega,.inr (by omega)⟩)
 have m02:Mt W h h2:=((Mt.of k1).then y3).mono λz hz hlt=>g3 s z hs hz
 refine⟨A',(L s).length+1,K',h2,y1,m02,h3,s3,⟨⟨upd A s A',upd K s K',?_,λs' hs'=>?_,λs' z hs' hz=>?_,λs' s'' z hs' hs'' h' h''=>?_⟩,by omega,λz hz=>hz.elim (λh=>⟨(p2 z h).1,by have:=(p2 z h).2;omega⟩) (λh=>⟨by omega,h.2⟩)⟩,⟨by omega,λz hz hn=>(o3 z (λe=>hn (.inl e))).trans (m02.get z hz λho=>hn (.inr ho))⟩⟩
 ·rw[Nat.zero_add,nU hs]at b3
  have e:(λs_1=>Value.slice (upd A s A' s_1) (upd L s (L s ++ [x]) s_1).length (upd K s K' s_1))=upd (λs=>Value.slice (A s) (L s).length (K s)) s (.slice A' ((L s).length+1) K'):=by
   funext i
   unfold upd
   split
   ·rw[List.length_append];rfl
   ·rfl
  rw[e]
  exact b3
 ·unfold upd
  by_cases e:s' = s
  ·subst e
   simp only[if_true]
   have:=y2.off m3 λz hz _ e=>(nA' z hz).1 e
   unfold ints at this⊢
   rw[List.map_append,List.length_append]
   exact this
  ·simp only[if_neg e]
   exact(((g2 s' hs').nw k1).off y3 λz hz _ ho=>e (g4 s' s z hs' hs hz ho)).off m3 λz hz _ e'=>nb s' hs' (e' ▸ hz)
 ·unfold upd at hz
  by_cases e:s' = s
  ·rw[if_pos e]at hz;exact(nA' z hz).2
  ·rw[if_neg e]at hz;exact .inl (g3 s' z hs' hz)
 ·unfold upd at h' h''
  have cross:∀{a:Nat},a<m->a≠s->af (A a) z->af A' z->False:=fun {a} ha hne h1' h2'=>(y4 z h2').elim (λh=>hne (g4 a s z ha hs h1' h)) (λh=>by have:=(g2 a ha).own h1';omega)
  by_cases e:s' = s
  ·by_cases e':s'' = s
   ·omega
   ·rw[if_pos e]at h';rw[if_neg e']at h''
    exact(cross hs'' e' h'' h').elim
  ·by_cases e':s'' = s
   ·rw[if_neg e]at h';rw[if_pos e']at h''
    exact(cross hs' e h' h'').elim
   ·rw[if_neg e]at h';rw[if_neg e']at h''
    exact g4 s' s'' z hs' hs'' h' h''
theorem bS.sa (S:bS h W b m t L) (K:Nat):Sa aY (λz=>z=b\/W z) h (some ⟨b,0,none⟩) m K ((List.range m).map λs=>ints (L s)):=by
 obtain⟨⟨A,K',g1,g2,g3,g4⟩,p1,p2⟩:=S
 refine Sa.of_bk g1 (by simp) (.inl rfl) p1 λc x hx=>?_
 have hc:c<m:=by have:=(List.getElem?_eq_some_iff.1 hx).1;simpa using this
 have hx':x=ints (L c):=by simp[hc]at hx;exact hx.symm
 subst hx'
 refine⟨A c,(L c).length,K' c,?_,(g2 c hc).sa.mono λz hz _=>.inr (g3 c z hc hz)⟩
 show((((List.range m).map λs=>Value.slice (A s) (L s).length (K' s)).drop (c*1)).take 1)=_
 rw[Nat.mul_one]
 exact cR (by rw[List.getElem?_map,List.getElem?_range hc];rfl)
end
end Eva
end
section
open Go Go.RowKit
def fO (xa:List Tri) (p:Bool) (i:Nat) (v:Nat):List Nat:=bD (hit xa p v) i
theorem pX {xa:List Tri}{p:Bool}{i v:Nat}{x:Tri}(hx:xa[i]? = some x) (hv:(if p then x.1 else x.2.1)=(v:Int)):upd (fO xa p i) v (fO xa p i v ++ [i])=fO xa p (i+1):=by
 funext s
 unfold upd fO
 rw[gf]
 have hh:hit xa p s i=decide (s=v):=by
  unfold hit
  rw[hx]
  simp only
  rw[hv]
  by_cases e:s=v
  ·subst e;simp
  ·simp only[decide_eq_false e]
   exact beq_false_of_ne (by omega)
 by_cases e:s=v
 ·subst e
  rw[if_pos rfl,hh];simp
 ·rw[if_neg e,hh];simp[e]
theorem pY (xa:List Tri) (p:Bool) (i v:Nat):ints (fO xa p i v)=ends xa i (p,v):=rfl
theorem tu (xa:List Tri) (p:Bool) (i v:Nat):(fO xa p i v).length<=i:=aC _ _
namespace Eva
section
variable {h h':AH}{Fa F Ft:Nat->Prop}{Q:Value->AH->Prop}{Av Aa At:Option Addr}{nv Kv na Ka nt Kt:Nat}{vs xa:List Tri}{ts:List Tab}
theorem C6 (sv:Sa aJ F h Av nv Kv vs) (sa:Sa aJ Fa h Aa na Ka xa) (st:Sa dM Ft h At nt Kt ts) (ok:pH vs xa ts) (hfew:nv<=1000/\na<=1000)
  (hK:∀g h',h.next<=g->g<h'.next->ldC h' g 0=some (.slice Av nv Kv)->ldC h' g 1=some (.slice Aa na Ka)->ldC h' g 2=some (.slice At nt Kt)->
   (∃A n K,ldC h' g 3=some (.slice A n K)/\Sa aY (λz=>h.next<=z) h' A n K ((⟨vs,xa,ts⟩:ab).endsL false))->(∃A n K,ldC h' g 4=some (.slice A n K)/\Sa aY (λz=>h.next<=z) h' A n K ((⟨vs,xa,ts⟩:ab).endsL true))->
   (∃A n K,ldC h' g 5=some (.slice A n K)/\Sa cPr (λz=>h.next<=z) h' A n K (⟨vs,xa,ts⟩:ab).plL)->Nw h h'->Q (.pointer (some ⟨g,0,none⟩)) h') :
  WC Tryz.prog 213 [.agg #[.slice Av nv Kv,.slice Aa na Ka,.slice At nt Kt]] h Q:=by
 have lv:=sv.len
 have la:=sa.len
 have lt:=st.len
 refine oM λh1 e1=>?_
 obtain⟨k1,g1,z1⟩:=aj e1
 refine⟨_,_,_,_,_,_,_,_,_,aG (aa g1 rfl) (aa g1 rfl) (aa g1 rfl),_,_,_,aa g1 rfl,by omega,λh2 e2=>?_⟩
 obtain⟨k2,g2,z2⟩:=aj e2
 refine⟨_,_,_,aa (k2.bk (by omega) g1) rfl,by omega,λh3 e3=>?_⟩
 obtain⟨k3,g3,z3⟩:=aj e3
 refine⟨_,_,_,aa ((k2.trans k3).bk (by omega) g1) rfl,by omega,λh4 e4 h5 e5=>?_⟩
 obtain⟨k4,g4,z4⟩:=aj e4
 obtain⟨k5,g5,z5⟩:=aj e5
 rw[a9]at g2 g3
 rw[nV]at g4
 have k15:=((k2.trans k3).trans k4).trans k5
 have S1:bS h5 (λ_=>False) h1.next nv 31 (fO xa false 0):=(bS.new g2 (by omega)).nw ((k3.trans k4).trans k5)
 have S2:bS h5 (λ_=>False) h2.next nv 31 (fO xa true 0):=(bS.new g3 (by omega)).nw (k4.trans k5)
 refine⟨_,_,_,aa (k15.bk (by omega) g1) rfl,λm x h6=>∃(i:Nat) (W1 W2:Nat->Prop) (f:Nat->List Value),x=i/\i<=na/\m=na - i/\bS h6 W1 h1.next nv 31 (fO xa false i)/\bS h6 W2 h2.next nv 31 (fO xa true i)/\(∀z,W1 z->h5.next<=z)/\(∀z,W2 z->h5.next<=z)/\(∀z,W1 z->¬W2 z)/\
  (∀k,(f k).length=2)/\Bk h6 h3.next (cq f na) 370/\(∀k,k<i->f k = [.int .i64 (((⟨vs,xa,ts⟩:ab).inPl k:Nat):Int),.int .i64 (((⟨vs,xa,ts⟩:ab).outPl k:Nat):Int)])/\Mt (λz=>z=h1.next\/z=h2.next\/z=h3.next) h5 h6,na,
  ⟨0,λ_=>False,λ_=>False,_,rfl,Nat.zero_le _,rfl,S1,S2,λz hz=>hz.elim,λz hz=>hz.elim,λz hz=>hz.elim,λ_=>rfl,k5.bk (by omega) g4,λk hk=>absurd hk (by omega),Mt.refl _ _⟩,?_⟩
 rintro m x h6 ⟨i,W1,W2,f,rfl,hi,hm,T1,T2,lo1,lo2,dj,hf,b6,hfk,m6⟩
 have z6:=m6.next
 have g6:Bk h6 h4.next [.slice Av nv Kv,.slice Aa na Ka,.slice At nt Kt,.slice (some ⟨h1.next,0,none⟩) nv (cx nv),.slice (some ⟨h2.next,0,none⟩) nv (cx nv),.slice (some ⟨h3.next,0,none⟩) na (cx na)] 212:=m6.bk (by omega) (by omega) g5
 have k06:Nw h h6:=m6.is_nw (k1.trans k15) λz hz=>by omega
 refine⟨λhlt=>?_,λhge=>?_⟩
 ·obtain⟨b,o,x,y,w,hA,-,-,hx,e0,e1',e2'⟩:=(sa.nw k06).tri (k:=i) (by omega)
  obtain⟨⟨a0,a1⟩,⟨a2,a3⟩,-⟩:=ok.arcs_ _ (List.mem_of_getElem? hx)
  simp only at a0 a1 a2 a3
  obtain⟨u,rfl⟩:=Int.eq_ofNat_of_zero_le a0
  obtain⟨v,rfl⟩:=Int.eq_ofNat_of_zero_le a2
  have hu:u<nv:=by omega
  have hv:v<nv:=by omega
  refine⟨i,rfl,b,o,hA,by omega,_,_,_,aG e0 e1' e2',λh7 e7=>?_⟩
  obtain⟨h8,s8,k8,g8,z8⟩:=ay (vs:=[.int .i64 (u:Int),.int .i64 (v:Int),.int .i64 w]) e7 rfl (by simp[flat])
  have G8:=k8.bk (by omega) g6
  obtain⟨A13,K13,r13⟩:=(T1.nw k8).get hv
  obtain⟨A15,K15,r15⟩:=(T2.nw k8).get hu
  have l1:=tu xa false i v
  have l2:=tu xa true i u
  obtain⟨h9,s9,b9,z9,o9⟩:=uQ (k8.bk (by omega) b6) hf (k:=i) (by omega) (v:=[.int .i64 (((fO xa false i v).length:Nat):Int),.int .i64 (((fO xa true i u).length:Nat):Int)]) rfl (by simp[flat])
  have m9:Mt (λz=>z=h3.next) h8 h9:=⟨by omega,λz _ hn=>o9 z hn⟩
  have G9:=m9.bk (by omega) (by omega) G8
  have x9:=m9.bk (by omega) (by omega) g8
  have p1:=T1.pos
  have p2:=T2.pos
  have S19:bS h9 W1 h1.next nv 31 (fO xa false i):=(T1.nw k8).off m9 (by omega) λz hz e=>by have:=lo1 z hz;omega
  have S29:bS h9 W2 h2.next nv 31 (fO xa true i):=(T2.nw k8).off m9 (by omega) λz hz e=>by have:=lo2 z hz;omega
  obtain⟨A18,K18,r18,H18⟩:=S19.app hv i (by omega)
  refine⟨h8,s8,_,_,_,aa G8 rfl,_,_,_,aa G8 rfl,_,aa g8 rfl,v,rfl,_,_,rfl,hv,_,_,_,r13,_,_,_,aa G8 rfl,_,aa g8 rfl,u,rfl,_,_,rfl,hu,_,_,_,r15,_,_,rfl,by omega,h9,s9,_,_,_,aa G9 rfl,_,aa x9 rfl,_,_,_,aa G9 rfl,_,aa x9 rfl,v,rfl,_,_,rfl,hv,_,_,_,r18,λh10 e10=>?_⟩
  obtain⟨A19,n19,K19,h11,y11,m11,h12,s12,S12,m12⟩:=H18 h10 e10
  have nW1:¬W1 h4.next:=λhw=>by have:=lo1 _ hw;omega
  have nW1':¬W1 h6.next:=λhw=>by have:=(p1.2 _ hw).2;omega
  have nW2:¬W2 h4.next:=λhw=>by have:=lo2 _ hw;omega
  have nW2':¬W2 h6.next:=λhw=>by have:=(p2.2 _ hw).2;omega
  have G11:=m11.bk (by omega) nW1 G9
  have x11:=m11.bk (by omega) nW1' x9
  have z12:=m12.next
  have G12:=m12.bk (by omega) (λh=>h.elim (by omega) nW1) G9
  have x12:=m12.bk (by omega) (λh=>h.elim (by omega) nW1') x9
  have S212:bS h12 W2 h2.next nv 31 (fO xa true i):=S29.off m12 (λh=>h.elim (by omega) (λh=>by have:=lo1 _ h;omega)) λz hz h=>h.elim (λe=>by have:=lo2 z hz;omega) (λh=>dj z h hz)
  obtain⟨A22,K22,r22,H22⟩:=S212.app hu i (by omega)
  refine⟨A19,n19,K19,h11,y11,aa x11 rfl,aa G11 rfl,rfl,v,rfl,_,_,rfl,hv,h12,s12,_,_,_,aa G12 rfl,_,aa x12 rfl,_,_,_,aa G12 rfl,_,aa x12 rfl,u,rfl,_,_,rfl,hu,_,_,_,r22,λh13 e13=>?_⟩
  obtain⟨A23,n23,K23,h14,y14,m14,h15,s15,S15,m15⟩:=H22 h13 e13
  have G14:=m14.bk (by omega) nW2 G12
  have x14:=m14.bk (by omega) nW2' x12
  have z15:=m15.next
  have S115:=S12.off m15 (λh=>h.elim (by omega) (λh=>by have:=lo2 _ h;omega)) λz hz h=>by
   rcases hz with hz | hz
   ·exact h.elim (λe=>by have:=lo1 z hz;omega) (dj z hz)
   ·exact h.elim (by omega) (λh=>by have:=(p2.2 z h).2;omega)
  refine⟨A23,n23,K23,h14,y14,aa x14 rfl,aa G14 rfl,rfl,u,rfl,_,_,rfl,hu,h15,s15,_,wrS (by omega),na - (i+1),by omega,i+1,(λz=>W1 z\/(h9.next<=z/\z<h12.next)),(λz=>W2 z\/(h12.next<=z/\z<h15.next)),upd f i [.int .i64 (((fO xa false i v).length:Nat):Int),.int .i64 (((fO xa true i u).length:Nat):Int)],rfl,by omega,rfl,by rw[<-pX hx (v:=v) rfl];exact S115,by rw[<-pX hx (v:=u) rfl];exact S15,λz hz=>hz.elim (lo1 z) (λh=>by omega),λz hz=>hz.elim (lo2 z) (λh=>by omega),λz hz h=>?_,λj=>?_,?_,λk hk=>?_,?_⟩
  ·rcases hz with hz | hz
   ·exact h.elim (dj z hz) (λh=>by have:=(p1.2 z hz).2;omega)
   ·exact h.elim (λh=>by have:=(p2.2 z h).2;omega) (λh=>by omega)
  rotate_left
  ·exact m15.bk (by omega) (λh=>h.elim (by omega) (λh=>by have:=lo2 _ h;omega)) (m12.bk (by omega) (λh=>h.elim (by omega) (λh=>by have:=lo1 _ h;omega)) b9)
  ·unfold upd
   by_cases e:k=i
   ·subst e
    rw[if_pos rfl]
    have i1:(⟨vs,xa,ts⟩:ab).inPl k=(fO xa false k v).length:=by
     unfold ab.inPl ab.to ab.arc
     simp only[hx,Option.getD_some,Int.toNat_natCast]
     rw[<-pY]
     simp[ints]
    have i2:(⟨vs,xa,ts⟩:ab).outPl k=(fO xa true k u).length:=by
     unfold ab.outPl ab.fr ab.arc
     simp only[hx,Option.getD_some,Int.toNat_natCast]
     rw[<-pY]
     simp[ints]
    rw[i1,i2]
   ·rw[if_neg e];exact hfk k (by omega)
  ·refine((m6.nw k8).then (m9.mono λz hz _=>.inr (.inr hz))).trans m12 (λz hz hlt=>hz.elim .inl λh=>by have:=lo1 z h;omega) |>.trans m15 λz hz hlt=>hz.elim (λh=>.inr (.inl h)) λh=>by have:=lo2 z h;omega
  ·unfold upd
   split
   ·rfl
   ·exact hf j
 ·obtain rfl:i=na:=by omega
  have p1:=T1.pos
  have p2:=T2.pos
  have hend:∀p,((List.range nv).map λs=>ints (fO xa p i s))=(⟨vs,xa,ts⟩:ab).endsL p:=λp=>by
   unfold ab.endsL ab.nv ab.na
   simp only
   rw[lv,la]
   rfl
  refine hK h4.next h6 (by omega) (by omega) (aa g6 rfl) (aa g6 rfl) (aa g6 rfl) ⟨_,_,_,aa g6 rfl,?_⟩ ⟨_,_,_,aa g6 rfl,?_⟩ ⟨_,_,_,aa g6 rfl,?_⟩ k06
  ·rw[<-hend]
   exact(T1.sa _).mono λz hz _=>hz.elim (λe=>by omega) λh=>by have:=lo1 z h;omega
  ·rw[<-hend]
   exact(T2.sa _).mono λz hz _=>hz.elim (λe=>by omega) λh=>by have:=lo2 z h;omega
  ·refine Sa.of_bk b6 (by unfold ab.plL ab.na;simp[la]) (by omega) (by omega) λk x hx=>?_
   have hk:k<i:=by have:=(List.getElem?_eq_some_iff.1 hx).1;unfold ab.plL ab.na at this;simp[la]at this;omega
   have hx':x=((((⟨vs,xa,ts⟩:ab).inPl k:Nat):Int),(((⟨vs,xa,ts⟩:ab).outPl k:Nat):Int)):=by
    unfold ab.plL ab.na at hx
    simp[la,hk]at hx
    exact hx.symm
   subst hx'
   show((cq f i).drop (k*2)).take 2=_
   rw[ii hf i hk,hfk k hk]
end
end Eva
end
end Go.Proofs.YtaomlhopkfmheaaGreatDoor
