/-
Lemmas for TopEntries. No condition.
-/
import Derived.Lib.Hide
import Derived.Test.YtaomlhopkfmheaaGreatDoorPg
namespace Go.Proofs.YtaomlhopkfmheaaGreatDoor
set_option linter.unusedVariables false
set_option linter.unusedSimpArgs false
set_option linter.unusedSectionVars false
set_option linter.unnecessarySimpa false
section
open Go
inductive be (e:Nat->Nat->Option Nat) (s:Nat):Nat->Nat->Prop
 | here:be e s s 0
 | on {a b c x:Nat}:be e s a c->e a b=some x->be e s b (c+x)
structure hZ (I:Nat) (e:Nat->Nat->Option Nat) (s t d:Nat):Prop where
 le:d<=I
 least:∀c,be e s t c->d<=c
 way:d<I->be e s t d
theorem hZ.one {I:Nat}{e:Nat->Nat->Option Nat}{s t d d':Nat}(h:hZ I e s t d) (h':hZ I e s t d'):d=d':=by
 have h1:=h.le
 have h2:=h'.le
 rcases Nat.lt_or_ge d d' with k | k
 ·have:=h'.least d (h.way (by omega))
  omega
 ·rcases Nat.lt_or_ge d' d with k2 | k2
  ·have:=h.least d' (h'.way (by omega))
   omega
  ·omega
structure Dij (I:Nat) (e:Nat->Nat->Option Nat) (s:Nat) (done q:Nat->Option Nat):Prop where
 fin:∀a c,done a=some c->c<I/\be e s a c/\∀c',be e s a c'->c<=c'
 wait:∀b c,q b=some c->c<I/\be e s b c/\done b=none
 edge:∀a c b x,done a=some c->e a b=some x->done b=none->c+x<I->∃c',q b=some c'/\c'<=c+x
 start:done s=none->q s=some 0
section
variable {I:Nat}{e:Nat->Nat->Option Nat}{s:Nat}{done q:Nat->Option Nat}
theorem Dij.new (hI:0<I):Dij I e s (λ_=>none) (λb=>if b=s then some 0 else none) where
 fin:=λa c h=>by cases h
 wait:=λb c h=>by
  by_cases hb:b=s
  ·subst hb
   simp at h
   subst h
   exact⟨hI,.here,rfl⟩
  ·simp[hb]at h
 edge:=λa c b x h=>by cases h
 start:=λ_=>by simp
theorem Dij.cut (h:Dij I e s done q){t c:Nat}(hg:be e s t c) (hc:c<I) (ht:done t=none):∃b c',q b=some c'/\c'<=c:=by
 induction hg with
 | here=>exact⟨s,0,h.start ht,Nat.zero_le _⟩
 | @on a b c x hg he ih=>
  cases ha:done a with
  | none=>
   obtain⟨b',c',h1,h2⟩:=ih (by omega) ha
   exact⟨b',c',h1,by omega⟩
  | some ca=>
   have h1:=(h.fin a ca ha).2.2 c hg
   obtain⟨c',h2,h3⟩:=h.edge a ca b x ha he ht (by omega)
   exact⟨b,c',h2,by omega⟩
theorem Dij.popped (h:Dij I e s done q){k c:Nat}(hk:q k=some c) (hm:∀b c',q b=some c'->c<=c'):c<I/\be e s k c/\∀c',be e s k c'->c<=c':=by
 obtain⟨h1,h2,h3⟩:=h.wait k c hk
 refine⟨h1,h2,λc' hg=>?_⟩
 rcases Nat.lt_or_ge c' I with hc | hc
 ·obtain⟨b,c'',h4,h5⟩:=h.cut hg hc h3
  have:=hm b c'' h4
  omega
 ·omega
theorem Dij.next (h:Dij I e s done q){k c:Nat}(hk:q k=some c) (hm:∀b c',q b=some c'->c<=c'){q':Nat->Option Nat}
  (h1:∀b x,b≠k->done b=none->e k b=some x->c+x<I->∃c',q' b=some c'/\c'<=c+x)
  (h2:∀b c',b≠k->q b=some c'->∃c'',q' b=some c''/\c''<=c')
  (h3:∀b c',q' b=some c'->b≠k/\done b=none/\(q b=some c'\/∃x,e k b=some x/\c' = c+x/\c' < I)) :
  Dij I e s (λa=>if a=k then some c else done a) q':=by
 obtain⟨p1,p2,p3⟩:=h.popped hk hm
 refine⟨λa c' ha=>?_,λb c' hb=>?_,λa c' b x ha he hb hx=>?_,λhs=>?_⟩
 ·by_cases e1:a=k
  ·subst e1
   simp at ha
   subst ha
   exact⟨p1,p2,p3⟩
  ·simp[e1]at ha
   exact h.fin a c' ha
 ·obtain⟨g1,g2,g3⟩:=h3 b c' hb
  have g4:(if b=k then some c else done b)=none:=by rw[if_neg g1];exact g2
  rcases g3 with g3 | ⟨x,g5,rfl,g6⟩
  ·obtain⟨g5,g6,-⟩:=h.wait b c' g3
   exact⟨g5,g6,g4⟩
  ·exact⟨g6,.on p2 g5,g4⟩
 ·by_cases eb:b=k
  ·simp[eb]at hb
  ·rw[if_neg eb]at hb
   by_cases ea:a=k
   ·subst ea
    simp at ha
    subst ha
    exact h1 b x eb hb he hx
   ·simp[ea]at ha
    obtain⟨c1,g1,g2⟩:=h.edge a c' b x ha he hb hx
    obtain⟨c2,g3,g4⟩:=h2 b c1 eb g1
    exact⟨c2,g3,by omega⟩
 ·by_cases es:s=k
  ·simp[es]at hs
  ·rw[if_neg es]at hs
   obtain⟨c2,g1,g2⟩:=h2 s 0 es (h.start hs)
   obtain rfl:c2=0:=by omega
   exact g1
theorem Dij.ends (h:Dij I e s done q) (hq:∀b,q b=none) (t:Nat):hZ I e s t ((done t).getD I):=by
 cases ht:done t with
 | some c=>
  obtain⟨h1,h2,h3⟩:=h.fin t c ht
  exact⟨Nat.le_of_lt h1,h3,λ_=>h2⟩
 | none=>
  refine⟨Nat.le_refl _,λc hg=>?_,λhh=>absurd hh (by simp)⟩
  rcases Nat.lt_or_ge c I with hc | hc
  ·obtain⟨b,c',h4,-⟩:=h.cut hg hc ht
   rw[hq b]at h4
   cases h4
  ·simpa using hc
theorem Dij.found (h:Dij I e s done q){k c:Nat}(hk:q k=some c) (hm:∀b c',q b=some c'->c<=c'):hZ I e s k c:=by
 obtain⟨h1,h2,h3⟩:=h.popped hk hm
 exact⟨Nat.le_of_lt h1,h3,λ_=>h2⟩
end
end
section
open Go
def ia (q:Nat->Option Nat) (b x:Nat):Nat->Option Nat:=λk=>if k=b then(match q b with | some y=>some (min x y) | none=>some x) else q k
def eV (q:Nat->Option Nat) (b x:Nat):Bool:=match q b with | some y=>decide (x<y) | none=>true
def upd {α:Type}(f:Nat->α) (k:Nat) (v:α):Nat->α:=λa=>if a=k then v else f a
def del (q:Nat->Option Nat) (k:Nat):Nat->Option Nat:=λa=>if a=k then none else q a
def bV (done:Nat->Option Nat) (a:Nat) (s:(Nat->Option Nat)×(Nat->Nat)) (p:Nat×Nat):(Nat->Option Nat)×(Nat->Nat):=
 if done p.1=none then(ia s.1 p.1 p.2,if eV s.1 p.1 p.2 then upd s.2 p.1 a else s.2) else s
def bR (done:Nat->Option Nat) (a:Nat) (l:List (Nat×Nat)) (s:(Nat->Option Nat)×(Nat->Nat)):=l.foldl (bV done a) s
theorem xi (q:Nat->Option Nat) (b x:Nat):∃c,ia q b x b=some c/\c<=x:=by
 simp only[ia,if_pos rfl]
 cases q b with
 | none=>exact⟨x,rfl,Nat.le_refl _⟩
 | some y=>exact⟨_,rfl,Nat.min_le_left _ _⟩
theorem xj (q:Nat->Option Nat) (b x:Nat){k c:Nat}(h:q k=some c):∃c',ia q b x k=some c'/\c'<=c:=by
 unfold ia
 by_cases hk:k=b
 ·subst hk
  rw[if_pos rfl,h]
  exact⟨_,rfl,Nat.min_le_right _ _⟩
 ·rw[if_neg hk]
  exact⟨c,h,Nat.le_refl _⟩
theorem y8 {q:Nat->Option Nat}{b x k c:Nat}(h:ia q b x k=some c):(q k=some c/\(k=b->eV q b x=false))\/(k=b/\c=x/\eV q b x=true):=by
 unfold ia at h
 by_cases hk:k=b
 ·subst hk
  rw[if_pos rfl]at h
  cases hq:q k with
  | none=>rw[hq]at h;simp at h;exact .inr ⟨rfl,h.symm,by simp[eV,hq]⟩
  | some y=>
   rw[hq]at h
   simp at h
   by_cases hxy:x<y
   ·exact .inr ⟨rfl,by omega,by simp[eV,hq,hxy]⟩
   ·exact .inl ⟨by rw[<-h];congr 1;omega,λ_=>by simp[eV,hq];omega⟩
 ·rw[if_neg hk]at h
  exact .inl ⟨h,λe=>absurd e hk⟩
section
variable {done:Nat->Option Nat}{a:Nat}
theorem jq:∀(l:List (Nat×Nat)) (s:(Nat->Option Nat)×(Nat->Nat)){k c:Nat},s.1 k=some c->∃c',(bR done a l s).1 k=some c'/\c'<=c
 | [],s,k,c,h=>⟨c,h,Nat.le_refl _⟩
 | p :: l,s,k,c,h=>by
  have h1:∃c',(bV done a s p).1 k=some c'/\c'<=c:=by
   unfold bV
   split
   ·exact xj _ _ _ h
   ·exact⟨c,h,Nat.le_refl _⟩
  obtain⟨c',h2,h3⟩:=h1
  obtain⟨c'',h4,h5⟩:=jq l _ h2
  exact⟨c'',h4,Nat.le_trans h5 h3⟩
theorem pG:∀(l:List (Nat×Nat)) (s:(Nat->Option Nat)×(Nat->Nat)){b x:Nat},(b,x)∈l->done b=none->∃c',(bR done a l s).1 b=some c'/\c'<=x
 | [],s,b,x,h,_=>by cases h
 | p :: l,s,b,x,h,hd=>by
  rcases List.mem_cons.1 h with h | h
  ·subst h
   have h1:∃c',(bV done a s (b,x)).1 b=some c'/\c'<=x:=by
    unfold bV
    rw[if_pos hd]
    exact xi _ _ _
   obtain⟨c',h2,h3⟩:=h1
   obtain⟨c'',h4,h5⟩:=jq l _ h2
   exact⟨c'',h4,Nat.le_trans h5 h3⟩
  ·exact pG l _ h hd
theorem dY:∀(l:List (Nat×Nat)) (s:(Nat->Option Nat)×(Nat->Nat)){b c:Nat},(bR done a l s).1 b=some c->(s.1 b=some c/\(bR done a l s).2 b=s.2 b)\/(done b=none/\(b,c)∈l/\(bR done a l s).2 b=a)
 | [],s,b,c,h=>.inl ⟨h,rfl⟩
 | p :: l,s,b,c,h=>by
  rcases dY l (bV done a s p) h with⟨h1,h2⟩ | ⟨h1,h2,h3⟩
  ·have h4:(s.1 b=some c/\(bV done a s p).2 b=s.2 b)\/(done b=none/\(b,c)=p/\(bV done a s p).2 b=a):=by
    unfold bV at h1⊢
    by_cases hd:done p.1=none
    ·rw[if_pos hd]at h1⊢
     rcases y8 h1 with⟨g1,g2⟩ | ⟨g1,g2,g3⟩
     ·left
      refine⟨g1,?_⟩
      simp only
      by_cases hb:b=p.1
      ·rw[g2 hb];rfl
      ·split
       ·simp[upd,hb]
       ·rfl
     ·right
      refine⟨by rw[g1];exact hd,by rw[g1,g2],?_⟩
      simp only
      rw[g3,if_pos rfl]
      simp[upd,g1]
    ·rw[if_neg hd]at h1⊢
     exact .inl ⟨h1,rfl⟩
   rcases h4 with⟨g1,g2⟩ | ⟨g1,g2,g3⟩
   ·exact .inl ⟨g1,h2.trans g2⟩
   ·exact .inr ⟨g1,by rw[g2];exact List.mem_cons_self,h2.trans g3⟩
  ·exact .inr ⟨h1,List.mem_cons_of_mem _ h2,h3⟩
theorem ny:∀(l:List (Nat×Nat)) (s:(Nat->Option Nat)×(Nat->Nat)){b:Nat},done b≠none->(bR done a l s).2 b=s.2 b
 | [],s,b,h=>rfl
 | p :: l,s,b,h=>by
  have h1:(bV done a s p).2 b=s.2 b:=by
   unfold bV
   split
   ·rename_i hd
    simp only
    split
    ·have:b≠p.1:=λe=>h (by rw[e];exact hd)
     simp[upd,this]
    ·rfl
   ·rfl
  exact(ny l _ h).trans h1
end
def gG (I:Nat) (q:Nat->Option Nat):Nat->Option Nat:=λb=>match q b with | some c=>if c<I then some c else none | none=>none
theorem bL {I:Nat}{q:Nat->Option Nat}{b c:Nat}:gG I q b=some c↔q b=some c/\c<I:=by
 unfold gG
 cases q b with
 | none=>simp
 | some y=>
  by_cases h:y<I
  ·simp[h];intro e;omega
  ·simp[h];intro e;omega
section
variable {I:Nat}{e:Nat->Nat->Option Nat}{s:Nat}{done q:Nat->Option Nat}{par:Nat->Nat}
theorem Dij.round (h:Dij I e s done (gG I q)){k c:Nat}(hk:q k=some c) (hc:c<I) (hm:∀b c',q b=some c'->c<=c') (l:List (Nat×Nat))
  (hl1:∀b x,b≠k->e k b=some x->c+x<I->done b=none->(b,c+x)∈l) (hl2:∀b y,(b,y)∈l->y<I->∃x,e k b=some x/\y=c+x) :
  Dij I e s (upd done k (some c)) (gG I (bR (upd done k (some c)) k l (del q k,par)).1):=by
 have hk':gG I q k=some c:=bL.2 ⟨hk,hc⟩
 refine h.next hk' (λb c' hb=>hm b c' (bL.1 hb).1) (λb x hb hd he hx=>?_) (λb c' hb hq=>?_) (λb c' hq=>?_)
 ·obtain⟨c',h1,h2⟩:=pG (done:=upd done k (some c)) (a:=k) l (del q k,par) (hl1 b x hb he hx hd) (by simp[upd,hb,hd])
  exact⟨c',bL.2 ⟨h1,by omega⟩,h2⟩
 ·obtain⟨h1,h2⟩:=bL.1 hq
  obtain⟨c'',h3,h4⟩:=jq (done:=upd done k (some c)) (a:=k) l (del q k,par) (k:=b) (c:=c') (by simp[del,hb,h1])
  exact⟨c'',bL.2 ⟨h3,by omega⟩,h4⟩
 ·obtain⟨h1,h2⟩:=bL.1 hq
  rcases dY l (del q k,par) h1 with⟨h3,-⟩ | ⟨h3,h4,-⟩
  ·simp only[del]at h3
   by_cases hb:b=k
   ·simp[hb]at h3
   ·rw[if_neg hb]at h3
    have h5:=bL.2 ⟨h3,h2⟩
    exact⟨hb,(h.wait b c' h5).2.2,.inl h5⟩
  ·have hb:b≠k:=λe=>by subst e;simp[upd]at h3
   simp only[upd,if_neg hb]at h3
   obtain⟨x,h5,h6⟩:=hl2 b c' h4 h2
   exact⟨hb,h3,.inr ⟨x,h5,h6,h2⟩⟩
theorem Dij.over (h:Dij I e s done (gG I q)) (hq:∀b c,q b=some c->I<=c) (t:Nat):hZ I e s t ((done t).getD I):=
 h.ends (λb=>by
  cases hb:gG I q b with
  | none=>rfl
  | some c=>have:=bL.1 hb;have:=hq b c this.1;omega) t
structure Par (I:Nat) (e:Nat->Nat->Option Nat) (s:Nat) (done q:Nat->Option Nat) (par rank:Nat->Nat) (cnt:Nat):Prop where
 zero:∀c,done s=some c\/q s=some c->c=0
 rank_lt:∀a c,done a=some c->rank a<cnt
 step:∀b c,b≠s->done b=some c\/q b=some c->∃ca x,done (par b)=some ca/\e (par b) b=some x/\c=ca+x
 earlier:∀b c,b≠s->done b=some c->rank (par b)<rank b
theorem Par.start (hs:done=λ_=>none) (hq:q=λb=>if b=s then some 0 else none) (par rank:Nat->Nat):Par I e s done q par rank 0:=by
 subst hs hq
 refine⟨λc h=>?_,(λa c h=>by cases h),λb c hb h=>?_,(λb c hb h=>by cases h)⟩
 ·rcases h with h | h
  ·cases h
  ·simpa using h.symm
 ·rcases h with h | h
  ·cases h
  ·simp[hb]at h
theorem Par.round {rank:Nat->Nat}{cnt:Nat}(h:Par I e s done q par rank cnt){k c:Nat}(hk:q k=some c) (hd:done k=none) (l:List (Nat×Nat)) (hl:∀b y,(b,y)∈l->b≠k->b≠s->∃x,e k b=some x/\y=c+x) (hs:k=s\/done s≠none) :
  Par I e s (upd done k (some c)) (bR (upd done k (some c)) k l (del q k,par)).1 (bR (upd done k (some c)) k l (del q k,par)).2 (upd rank k cnt) (cnt+1):=by
 have hpar:∀a,(upd done k (some c)) a≠none->(bR (upd done k (some c)) k l (del q k,par)).2 a=par a:=λa ha=>ny l _ ha
 have hold:∀a ca,done a=some ca->upd done k (some c) a=some ca:=λa ca ha=>by
  have:a≠k:=λe=>by subst e;rw[hd]at ha;cases ha
  simp[upd,this,ha]
 have hrk:∀a ca,done a=some ca->upd rank k cnt a=rank a:=λa ca ha=>by
  have:a≠k:=λe=>by subst e;rw[hd]at ha;cases ha
  simp[upd,this]
 refine⟨λc' h'=>?_,λa c' ha=>?_,λb c' hb h'=>?_,λb c' hb h'=>?_⟩
 ·rcases h' with h' | h'
  ·by_cases hks:s=k
   ·subst hks
    simp[upd]at h'
    subst h'
    exact h.zero _ (.inr hk)
   ·simp[upd,hks]at h'
    exact h.zero _ (.inl h')
  ·rcases dY l _ h' with⟨h3,-⟩ | ⟨h3,-,-⟩
   ·simp only[del]at h3
    by_cases hks:s=k
    ·simp[hks]at h3
    ·rw[if_neg hks]at h3
     exact h.zero _ (.inr h3)
   ·rcases hs with rfl | hs
    ·simp[upd]at h3
    ·exfalso
     simp only[upd]at h3
     split at h3
     ·cases h3
     ·exact hs h3
 ·simp only[upd]at ha
  by_cases hak:a=k
  ·subst hak;simp[upd]
  ·rw[if_neg hak]at ha
   have:=h.rank_lt a c' ha
   simp[upd,hak];omega
 ·rcases h' with h' | h'
  ·by_cases hbk:b=k
   ·subst hbk
    simp[upd]at h'
    subst h'
    obtain⟨ca,x,h1,h2,h3⟩:=h.step b c hb (.inr hk)
    rw[hpar b (by simp[upd])]
    exact⟨ca,x,hold _ _ h1,h2,h3⟩
   ·simp[upd,hbk]at h'
    obtain⟨ca,x,h1,h2,h3⟩:=h.step b c' hb (.inl h')
    rw[hpar b (by simp[upd,hbk,h'])]
    exact⟨ca,x,hold _ _ h1,h2,h3⟩
  ·rcases dY l _ h' with⟨h3,h4⟩ | ⟨h3,h4,h5⟩
   ·simp only[del]at h3
    by_cases hbk:b=k
    ·simp[hbk]at h3
    ·rw[if_neg hbk]at h3
     obtain⟨ca,x,h1,h2,h6⟩:=h.step b c' hb (.inr h3)
     rw[h4]
     exact⟨ca,x,hold _ _ h1,h2,h6⟩
   ·rw[h5]
    have hbk:b≠k:=λe=>by subst e;simp[upd]at h3
    obtain⟨x,h6,h7⟩:=hl b c' h4 hbk hb
    exact⟨c,x,by simp[upd],h6,h7⟩
 ·by_cases hbk:b=k
  ·subst hbk
   rw[hpar b (by simp[upd])]
   obtain⟨ca,x,h1,h2,h3⟩:=h.step b c hb (.inr hk)
   rw[hrk _ _ h1]
   have:=h.rank_lt _ _ h1
   simp[upd];omega
  ·have hd':done b=some c':=by simpa[upd,hbk]using h'
   rw[hpar b (by simp[upd,hbk,hd']),hrk b c' hd']
   obtain⟨ca,x,h1,h2,h3⟩:=h.step b c' hb (.inl hd')
   rw[hrk _ _ h1]
   exact h.earlier b c' hb hd'
end
end
section
open Go
inductive Way (e:Nat->Nat->Option Nat) (t:Nat):Nat->Nat->Nat->Prop
 | stop:Way e t t 0 0
 | on {a b x c n:Nat}:e a b=some x->Way e t b c n->Way e t a (x+c) (n+1)
theorem be.front {e:Nat->Nat->Option Nat}{a b x:Nat}(h:e a b=some x){t c:Nat}(hg:be e b t c):be e a t (x+c):=by
 induction hg with
 | here=>simpa using be.on (be.here (e:=e) (s:=a)) h
 | @on p q c y hg he ih=>rw[<-Nat.add_assoc];exact .on ih he
theorem Way.goes {e:Nat->Nat->Option Nat}{t a c n:Nat}(h:Way e t a c n):be e a t c:=by
 induction h with
 | stop=>exact .here
 | on he _ ih=>exact be.front he ih
theorem Way.back {e:Nat->Nat->Option Nat}{t u x:Nat}(hx:e t u=some x){a c n:Nat}(h:Way e t a c n):Way e u a (c+x) (n+1):=by
 induction h with
 | stop=>simpa using Way.on hx (Way.stop (e:=e) (t:=u))
 | @on a b y c n he _ ih=>rw[Nat.add_assoc];exact .on he ih
theorem be.way {e:Nat->Nat->Option Nat}{s t c:Nat}(h:be e s t c):∃n,Way e t s c n:=by
 induction h with
 | here=>exact⟨0,.stop⟩
 | on _ he ih=>
  obtain⟨n,hn⟩:=ih
  exact⟨n+1,hn.back he⟩
inductive an (e:Nat->Nat->Option Nat) (P:Nat->Prop) (a:Nat):Nat->Nat->Prop
 | here:an e P a a 0
 | on {b d c x:Nat}:an e P a b c->e b d=some x->P d->an e P a d (c+x)
theorem an.goes {e:Nat->Nat->Option Nat}{P:Nat->Prop}{a d c:Nat}(h:an e P a d c):be e a d c:=by
 induction h with
 | here=>exact .here
 | on _ he _ ih=>exact .on ih he
structure nz (I L:Nat) (e lp:Nat->Nat->Option Nat) (fr to_:Nat->Nat) (cell:Nat->Nat->Nat) (lev:Nat->Nat) (s t:Nat):Prop where
 ends:∀a b x,e a b=some x->fr b=to_ a
 nest:∀l k u v,1<=l->l<=k->k<=L->cell l u=cell l v->cell k u=cell k v
 lev_le:∀v,lev v<=L
 lev_out:∀v,0<lev v->cell (lev v) v≠cell (lev v) (to_ s)/\cell (lev v) v≠cell (lev v) (fr t)
 lev_max:∀v k,lev v<k->k<=L->cell k v=cell k (to_ s)\/cell k v=cell k (fr t)
 real:∀a b x,0<lev (to_ a)->lp a b=some x->∃d c y,an e (λd=>cell (lev (to_ a)) (fr d)=cell (lev (to_ a)) (to_ a)/\cell (lev (to_ a)) (to_ d)=cell (lev (to_ a)) (to_ a)) a d c/\e d b=some y/\x=c+y
 least:∀a d c b y,0<lev (to_ a)->cell (lev (to_ a)) (fr a)≠cell (lev (to_ a)) (to_ a)->an e (λd=>cell (lev (to_ a)) (fr d)=cell (lev (to_ a)) (to_ a)/\cell (lev (to_ a)) (to_ d)=cell (lev (to_ a)) (to_ a)) a d c->e d b=some y->
  cell (lev (to_ a)) (fr b)=cell (lev (to_ a)) (to_ a)->cell (lev (to_ a)) (to_ b)≠cell (lev (to_ a)) (to_ a)->c+y<I->∃x,lp a b=some x/\x<=c+y
def nE (e lp:Nat->Nat->Option Nat) (to_ lev:Nat->Nat) (a b:Nat):Option Nat:=if lev (to_ a)=0 then e a b else lp a b
section
variable {I L:Nat}{e lp:Nat->Nat->Option Nat}{fr to_:Nat->Nat}{cell:Nat->Nat->Nat}{lev:Nat->Nat}{s t:Nat}
theorem nz.goes (h:nz I L e lp fr to_ cell lev s t){a b c:Nat}(hg:be (nE e lp to_ lev) a b c):be e a b c:=by
 induction hg with
 | here=>exact .here
 | @on p q c x hg he ih=>
  unfold nE at he
  by_cases h0:lev (to_ p)=0
  ·rw[if_pos h0]at he
   exact .on ih he
  ·rw[if_neg h0]at he
   obtain⟨d,c1,y,h1,h2,rfl⟩:=h.real p q x (by omega) he
   have:∀{d c1:Nat},an e (λd=>cell (lev (to_ p)) (fr d)=cell (lev (to_ p)) (to_ p)/\cell (lev (to_ p)) (to_ d)=cell (lev (to_ p)) (to_ p)) p d c1->be e a d (c+c1):=λhw=>by
    induction hw with
    | here=>simpa using ih
    | on _ he' _ ih'=>rw[<-Nat.add_assoc];exact .on ih' he'
   rw[<-Nat.add_assoc]
   exact .on (this h1) h2
theorem leave {a k C c0 d:Nat}(hends:∀a b x,e a b=some x->fr b=to_ a) (ht:cell k (fr t)≠C) :
  ∀{c n d c0},Way e t d c n->an e (λd=>cell k (fr d)=C/\cell k (to_ d)=C) a d c0->cell k (to_ d)=C->d≠t->
   ∃d' c1 b y c2 n2,an e (λd=>cell k (fr d)=C/\cell k (to_ d)=C) a d' c1/\e d' b=some y/\cell k (fr b)=C/\cell k (to_ b)≠C/\Way e t b c2 n2/\n2<n/\c1+y+c2=c0+c:=by
 intro c n d c0 hw
 induction hw generalizing c0 with
 | stop=>intro _ _ h;exact absurd rfl h
 | @on d b x c n he hw ih=>
  intro hi hd hne
  have hf:cell k (fr b)=C:=by rw[hends d b x he];exact hd
  by_cases hb:cell k (to_ b)=C
  ·obtain⟨d',c1,b',y,c2,n2,g1,g2,g3,g4,g5,g6,g7⟩:=ih (.on hi he ⟨hf,hb⟩) hb (λe=>ht (by rw[<-e];exact hf))
   exact⟨d',c1,b',y,c2,n2,g1,g2,g3,g4,g5,by omega,by omega⟩
  ·exact⟨d,c0,b,x,c,n,hi,he,hf,hb,hw,by omega,by omega⟩
theorem nz.found (h:nz I L e lp fr to_ cell lev s t):∀(n a c:Nat),Way e t a c n->(0<lev (to_ a)->cell (lev (to_ a)) (fr a)≠cell (lev (to_ a)) (to_ a))->c<I->∃c' n',c'<=c/\Way (nE e lp to_ lev) t a c' n':=by
 intro n
 induction n using Nat.strongRecOn with
 | ind n ih=>
  intro a c hw hp hc
  by_cases hat:a=t
  ·subst hat
   exact⟨0,0,Nat.zero_le _,.stop⟩
  ·by_cases h0:lev (to_ a)=0
   ·cases hw with
    | stop=>exact absurd rfl hat
    | @on _ b x c n he hw=>
     obtain⟨c',n',g1,g2⟩:=ih n (by omega) b c hw (λhl=>by
      rw[h.ends a b x he]
      obtain⟨k1,k2⟩:=h.lev_out (to_ b) hl
      rcases h.lev_max (to_ a) (lev (to_ b)) (by omega) (h.lev_le _) with k3 | k3
      ·rw[k3];exact λe=>k1 e.symm
      ·rw[k3];exact λe=>k2 e.symm) (by omega)
     exact⟨x+c',n' + 1,by omega,.on (by rw[nE,if_pos h0];exact he) g2⟩
   ·have hl:0<lev (to_ a):=by omega
    obtain⟨o1,o2⟩:=h.lev_out (to_ a) hl
    obtain⟨d',c1,b,y,c2,n2,g1,g2,g3,g4,g5,g6,g7⟩:=leave (a:=a) (k:=lev (to_ a)) (C:=cell (lev (to_ a)) (to_ a)) (c0:=0) (d:=a) h.ends (λe=>o2 e.symm) hw .here rfl hat
    obtain⟨x,k1,k2⟩:=h.least a d' c1 b y hl (hp hl) g1 g2 g3 g4 (by omega)
    obtain⟨c',n',k3,k4⟩:=ih n2 g6 b c2 g5 (λhlb heq=>by
     obtain⟨p1,p2⟩:=h.lev_out (to_ b) hlb
     rcases Nat.lt_or_ge (lev (to_ a)) (lev (to_ b)) with q | q
     ·have e1:=h.nest _ _ _ _ hl (Nat.le_of_lt q) (h.lev_le _) g3
      rcases h.lev_max (to_ a) (lev (to_ b)) q (h.lev_le _) with k5 | k5
      ·exact p1 (by rw[<-heq,e1,k5])
      ·exact p2 (by rw[<-heq,e1,k5])
     ·have e1:=h.nest _ _ _ _ hlb q (h.lev_le _) heq
      exact g4 (by rw[<-e1];exact g3)) (by omega)
    exact⟨x+c',n' + 1,by omega,.on (by rw[nE,if_neg h0];exact k1) k4⟩
theorem nz.law (h:nz I L e lp fr to_ cell lev s t){d:Nat}(hd:hZ I (nE e lp to_ lev) s t d):hZ I e s t d:=by
 refine⟨hd.le,λc hg=>?_,λhh=>h.goes (hd.way hh)⟩
 rcases Nat.lt_or_ge c I with hc | hc
 ·obtain⟨n,hw⟩:=hg.way
  obtain⟨c',n',k1,k2⟩:=h.found n s c hw (λhl=>absurd rfl (h.lev_out (to_ s) hl).1) hc
  have:=hd.least c' k2.goes
  omega
 ·have:=hd.le
  omega
end
end
section
open Go
inductive lP (e:Nat->Nat->Option Nat) (P:Nat->Prop) (d:Nat):Nat->Nat->Nat->Prop
 | stop:lP e P d d 0 0
 | on {a b x c n:Nat}:e a b=some x->P b->lP e P d b c n->lP e P d a (x+c) (n+1)
theorem lP.back {e:Nat->Nat->Option Nat}{P:Nat->Prop}{d u x:Nat}(hx:e d u=some x) (hu:P u){a c n:Nat}(h:lP e P d a c n):lP e P u a (c+x) (n+1):=by
 induction h with
 | stop=>simpa using lP.on hx hu (lP.stop (e:=e) (P:=P) (d:=u))
 | @on a b y c n he hp _ ih=>rw[Nat.add_assoc];exact .on he hp ih
theorem an.way {e:Nat->Nat->Option Nat}{P:Nat->Prop}{a d c:Nat}(h:an e P a d c):∃n,lP e P d a c n:=by
 induction h with
 | here=>exact⟨0,.stop⟩
 | on _ he hp ih=>
  obtain⟨n,hn⟩:=ih
  exact⟨n+1,hn.back he hp⟩
theorem an.trans {e:Nat->Nat->Option Nat}{P:Nat->Prop}{a b d c c':Nat}(h:an e P a b c) (k:an e P b d c'):an e P a d (c+c'):=by
 induction k with
 | here=>exact h
 | on _ he hp ih=>rw[<-Nat.add_assoc];exact .on ih he hp
theorem an.mono {e:Nat->Nat->Option Nat}{P Q:Nat->Prop}{a d c:Nat}(hPQ:∀x,P x->Q x) (h:an e P a d c):an e Q a d c:=by
 induction h with
 | here=>exact .here
 | on _ he hp ih=>exact .on ih he (hPQ _ hp)
def iS (fr to_ cell:Nat->Nat) (PC:Nat->Prop) (p d:Nat):Prop:=PC d/\cell (fr d)=cell (to_ p)/\cell (to_ d)=cell (to_ p)
structure Kids (I:Nat) (e e0:Nat->Nat->Option Nat) (fr to_ cell:Nat->Nat) (PC T:Nat->Prop) (kE kO:Nat->Nat->Option Nat):Prop where
 ends:∀a b x,e a b=some x->fr b=to_ a
 realE:∀p m x,kE p m=some x->∃d c y,an e (iS fr to_ cell PC p) p d c/\e d m=some y/\PC m/\x=c+y
 realO:∀p b x,kO p b=some x->∃d c y,an e (iS fr to_ cell PC p) p d c/\e0 d b=some y/\x=c+y
 leastE:∀p d c m y,cell (fr p)≠cell (to_ p)->an e (iS fr to_ cell PC p) p d c->e d m=some y->PC m->cell (fr m)=cell (to_ p)->cell (to_ m)≠cell (to_ p)->c+y<I->∃x,kE p m=some x/\x<=c+y
 pcT:∀m,PC m->T m
 leastO:∀p d c b y,T p->cell (fr p)≠cell (to_ p)->an e (iS fr to_ cell PC p) p d c->e0 d b=some y->¬PC b->c+y<I->∃x,kO p b=some x/\x<=c+y
section
variable {I:Nat}{e e0:Nat->Nat->Option Nat}{fr to_ cell:Nat->Nat}{PC T:Nat->Prop}{kE kO:Nat->Nat->Option Nat}
theorem Kids.leave (h:Kids I e e0 fr to_ cell PC T kE kO){a d:Nat}:∀{c n p c0},lP e PC d p c n->an e (iS fr to_ cell PC a) a p c0->cell (to_ p)=cell (to_ a)->
  an e (iS fr to_ cell PC a) a d (c0+c)\/∃d' c1 m y c2 n2,an e (iS fr to_ cell PC a) a d' c1/\e d' m=some y/\PC m/\cell (fr m)=cell (to_ a)/\cell (to_ m)≠cell (to_ a)/\lP e PC d m c2 n2/\n2<n/\c1+y+c2=c0+c:=by
 intro c n p c0 hw
 induction hw generalizing c0 with
 | stop=>intro hi _;exact .inl hi
 | @on p b x c n he hp hw ih=>
  intro hi hd
  have hf:cell (fr b)=cell (to_ a):=by rw[h.ends p b x he];exact hd
  by_cases hb:cell (to_ b)=cell (to_ a)
  ·rcases ih (.on hi he ⟨hp,hf,hb⟩) hb with g | ⟨d',c1,m,y,c2,n2,g1,g2,g3,g4,g5,g6,g7,g8⟩
   ·left
    rw[<-Nat.add_assoc]
    exact g
   ·exact .inr ⟨d',c1,m,y,c2,n2,g1,g2,g3,g4,g5,g6,by omega,by omega⟩
  ·exact .inr ⟨p,c0,b,x,c,n,hi,he,hp,hf,hb,hw,by omega,by omega⟩
theorem Kids.goes (h:Kids I e e0 fr to_ cell PC T kE kO){a p c:Nat}(hg:be kE a p c):an e PC a p c:=by
 induction hg with
 | here=>exact .here
 | @on p m c x hg he ih=>
  obtain⟨d,c1,y,h1,h2,h3,rfl⟩:=h.realE p m x he
  rw[<-Nat.add_assoc]
  exact .on (ih.trans (h1.mono λ_ hx=>hx.1)) h2 h3
theorem Kids.found (h:Kids I e e0 fr to_ cell PC T kE kO){b d y:Nat}(hy:e0 d b=some y) (hb:¬PC b):∀(n p c:Nat),lP e PC d p c n->T p->cell (fr p)≠cell (to_ p)->c+y<I->∃q c1 z,be kE p q c1/\kO q b=some z/\c1+z<=c+y:=by
 intro n
 induction n using Nat.strongRecOn with
 | ind n ih=>
  intro p c hw hT hp hc
  rcases h.leave (a:=p) hw .here rfl with g | ⟨d',c1,m,x,c2,n2,g1,g2,g3,g4,g5,g6,g7,g8⟩
  ·rw[Nat.zero_add]at g
   obtain⟨z,k1,k2⟩:=h.leastO p d c b y hT hp g hy hb hc
   exact⟨p,0,z,.here,k1,by omega⟩
  ·obtain⟨x',k1,k2⟩:=h.leastE p d' c1 m x hp g1 g2 g3 g4 g5 (by omega)
   obtain⟨q,c3,z,k3,k4,k5⟩:=ih n2 g7 m c2 g6 (h.pcT m g3) (by rw[g4];exact λe=>g5 e.symm) (by omega)
   exact⟨q,x' + c3,z,be.front k1 k3,k4,by omega⟩
theorem Kids.law (h:Kids I e e0 fr to_ cell PC T kE kO){a b v:Nat}(hT:T a) (ha:cell (fr a)≠cell (to_ a)) (hb:¬PC b) (hv1:v<=I) (hv2:∀p c y,be kE a p c->kO p b=some y->v<=c+y) (hv3:v<I->∃p c y,be kE a p c/\kO p b=some y/\v=c+y) :
  (∀d c y,an e PC a d c->e0 d b=some y->v<=c+y)/\(v<I->∃d c y,an e PC a d c/\e0 d b=some y/\v=c+y):=by
 refine⟨λd c y hw hy=>?_,λhh=>?_⟩
 ·rcases Nat.lt_or_ge (c+y) I with hc | hc
  ·obtain⟨n,hn⟩:=hw.way
   obtain⟨q,c1,z,k1,k2,k3⟩:=h.found hy hb n a c hn hT ha hc
   have:=hv2 q c1 z k1 k2
   omega
  ·omega
 ·obtain⟨p,c,y,g1,g2,rfl⟩:=hv3 hh
  obtain⟨d,c1,z,g3,g4,rfl⟩:=h.realO p b y g2
  exact⟨d,c+c1,z,(h.goes g1).trans (g3.mono λ_ hx=>hx.1),g4,by omega⟩
end
end
section
open Go
def eT (tr:Nat->Nat->Option Nat) (ok:Nat->Bool) (w:Nat->Nat) (a b:Nat):Option Nat:=
 match tr a b with
 | some t=>if ok b=true then some (t+w b) else none
 | none=>none
theorem qZ {tr:Nat->Nat->Option Nat}{ok:Nat->Bool}{w:Nat->Nat}{a b x:Nat}:eT tr ok w a b=some x↔∃t,tr a b=some t/\ok b=true/\x=t+w b:=by
 unfold eT
 cases h:tr a b with
 | none=>simp
 | some t=>
  by_cases h2:ok b=true
  ·simp[h2,eq_comm]
  ·simp[h2]
theorem Ew {tr:Nat->Nat->Option Nat}{ok:Nat->Bool}{w:Nat->Nat}{s t c:Nat}(hs:ok s=true) (h:be (eT tr ok w) s t c):ok t=true/\∃c',be (eT (λa b=>tr b a) ok w) t s c'/\c+w s=c' + w t:=by
 induction h with
 | here=>exact⟨hs,0,.here,rfl⟩
 | @on a b c x hg he ih=>
  obtain⟨ha,c',g1,g2⟩:=ih
  obtain⟨t0,h1,h2,rfl⟩:=qZ.1 he
  refine⟨h2,t0+w a+c',be.front ((qZ (tr:=λa b=>tr b a)).2 ⟨t0,h1,ha,rfl⟩) g1,by omega⟩
def Cd (e:Nat->Nat->Option Nat) (fr to_ cell:Nat->Nat) (a b:Nat):Option Nat:=if cell (fr b)=cell (to_ b) then e a b else none
end
section
open Go Go.RowKit
def aL (a:Int):Bool:=decide ((0<=a/\a<=2147483648)\/a=1152921504606846976)
def ge (x:Int):Bool:=decide (-1048576<=x/\x<=1048576)
structure cg (ins outs:Int) (costs:List Int):Prop where
 ins_:0<=ins/\ins<=16
 outs_:0<=outs/\outs<=16
 len:(costs.length:Int)=ins*outs
 cost:∀c∈costs,aL c=true
end
section
open Go Go.RowKit
def kR (f:Tri->Int) (arcs:List Tri) (nv k:Nat):List Int:=(List.range nv).map λ(i:Nat)=>(((arcs.take k).countP λa=>f a == (i:Int)):Int)
theorem jV (f:Tri->Int) (arcs:List Tri) (nv k:Nat):(kR f arcs nv k).length=nv:=by simp[kR]
theorem iw (f:Tri->Int) (arcs:List Tri) (nv:Nat):kR f arcs nv 0=List.replicate nv 0:=by
 apply List.ext_getElem? ;intro i
 simp only[kR,List.getElem?_map,List.getElem?_replicate]
 by_cases h:i<nv <;>simp[h]
theorem dD {f:Tri->Int}{arcs:List Tri}{nv k j:Nat}(hj:j<nv):(kR f arcs nv k)[j]? = some (((arcs.take k).countP λa=>f a == (j:Int)):Int):=by
 simp[kR,hj]
theorem iy {f:Tri->Int}{arcs:List Tri}{nv k j:Nat}{a:Tri}(ha:arcs[k]? = some a) (hf:f a=(j:Int)) (hj:j<nv) :
  kR f arcs nv (k+1)=(kR f arcs nv k).set j ((((arcs.take k).countP λa=>f a == (j:Int)):Int)+1):=by
 have hk:=(List.getElem?_eq_some_iff.1 ha).1
 have hak:=(List.getElem?_eq_some_iff.1 ha).2
 apply List.ext_getElem? ;intro i
 rw[List.getElem?_set]
 simp only[kR,List.getElem?_map,List.length_map,List.length_range]
 by_cases h:j=i
 ·subst h
  simp only[if_true,hj,List.getElem?_range,Option.map_some]
  rw[List.take_succ_eq_append_getElem hk,List.countP_append,hak]
  simp[hf]
 ·simp only[h,if_false]
  by_cases hn:i<nv
  ·simp only[hn,List.getElem?_range,Option.map_some,Option.some.injEq]
   rw[List.take_succ_eq_append_getElem hk,List.countP_append,hak]
   have:(f a == (i:Int))=false:=by rw[hf];simp;omega
   simp[this]
  ·simp[hn]
theorem ra (f:Tri->Int) (arcs:List Tri) (k j:Nat):((arcs.take k).countP λa=>f a == (j:Int))<=arcs.length:=
 Nat.le_trans List.countP_le_length (by simp;omega)
def gH (a:Tri):Int:=a.1
def de (a:Tri):Int:=a.2.1
structure pH (verts:List Tri) (arcs:List Tri) (types:List Tab):Prop where
 nv:verts.length<=4096
 na:arcs.length<=16384
 nt:types.length<=256
 types_:∀t∈types,cg t.1 t.2.1 t.2.2
 verts_:∀v∈verts,ge v.1=true/\ge v.2.1=true/\0<=v.2.2/\v.2.2<types.length
 arcs_:∀a∈arcs,(0<=a.1/\a.1<verts.length)/\(0<=a.2.1/\a.2.1<verts.length)/\aL a.2.2=true
 deg:∀(i:Nat) v t,verts[i]? = some v->types[v.2.2.toNat]? = some t->
  (arcs.countP λa=>de a == (i:Int))<=16/\(arcs.countP λa=>gH a == (i:Int))<=16/\t.1=(arcs.countP λa=>de a == (i:Int):Nat)/\t.2.1=(arcs.countP λa=>gH a == (i:Int):Nat)
end
section
open Go Go.RowKit
def aI (row:List Int):Int:=row.foldl (λn x=>max n (x+1)) 0
theorem oY (xs:List Int) (x:Int):aI (xs ++ [x])=max (aI xs) (x+1):=by simp[aI]
theorem dE {row:List Int}{k:Nat}{x:Int}(h:row[k]? = some x):aI (row.take (k+1))=max (aI (row.take k)) (x+1):=by
 rw[List.take_add_one,h,Option.toList_some,oY]
theorem jr (row:List Int):∀a:Int,a<=row.foldl (λn x=>max n (x+1)) a/\(∀x∈row,x+1<=row.foldl (λn x=>max n (x+1)) a)/\(row.foldl (λn x=>max n (x+1)) a=a\/∃x∈row,row.foldl (λn x=>max n (x+1)) a=x+1):=by
 induction row with
 | nil=>exact λa=>⟨Int.le_refl _,by simp,.inl rfl⟩
 | cons y row ih=>
  intro a
  obtain⟨h1,h2,h3⟩:=ih (max a (y+1))
  simp only[List.foldl_cons]
  refine⟨by omega,λx hx=>?_,?_⟩
  ·rcases List.mem_cons.1 hx with rfl | hx
   ·omega
   ·exact h2 x hx
  ·rcases h3 with h3 | ⟨x,hx,h3⟩
   ·rw[h3]
    by_cases h:a<=y+1
    ·exact .inr ⟨y,by simp,by omega⟩
    ·exact .inl (by omega)
   ·exact .inr ⟨x,by simp[hx],h3⟩
theorem cD (row:List Int):0<=aI row:=(jr row 0).1
theorem kS {row:List Int}{x:Int}(h:x∈row):x+1<=aI row:=(jr row 0).2.1 x h
theorem xk (row:List Int):aI row=0\/∃x∈row,aI row=x+1:=(jr row 0).2.2
theorem cP {row:List Int}{n:Int}(hn:0<=n) (h:∀x∈row,x<n):aI row<=n:=by
 rcases xk row with h1 | ⟨x,hx,h1⟩
 ·omega
 ·have:=h x hx;omega
def jW (n:Nat) (row:List Int):Prop:=∀x∈row,0<=x/\x<n
def dW (row:List Int):Prop:=∀c:Int,0<=c->c<aI row->c∈row
def eW (low row:List Int):Prop:=∀(a b:Nat) (x y x' y':Int),low[a]? = some x->low[b]? = some y->row[a]? = some x'->row[b]? = some y'->x<=y->x'<=y'
structure ax (nv:Nat) (p:List (List Int)):Prop where
 nv_:nv<=4096
 some_:1<=p.length
 few:p.length<=6
 rows:∀x∈p,x.length=nv
 inr:∀x∈p,jW nv x
 full:∀x∈p,dW x
 nest:∀(k:Nat) (l r:List Int),p[k]? = some l->p[k+1]? = some r->eW l r
theorem eW.eq {l r:List Int}(h:eW l r){a b:Nat}{x x' y':Int}(h1:l[a]? = some x) (h2:l[b]? = some x) (h3:r[a]? = some x') (h4:r[b]? = some y'):x' = y':=
 Int.le_antisymm (h a b x x x' y' h1 h2 h3 h4 (Int.le_refl _)) (h b a x x y' x' h2 h1 h4 h3 (Int.le_refl _))
def tal (zs:List Int) (m:Nat):List Int:=(List.range m).map λ(a:Nat)=>(zs.count (a:Int):Int)
theorem iA (zs:List Int) (m:Nat):(tal zs m).length=m:=by simp[tal]
theorem vR (m:Nat):tal [] m=List.replicate m 0:=by
 apply List.ext_getElem? ;intro i
 simp only[tal,List.getElem?_map,List.getElem?_replicate]
 by_cases h:i<m <;>simp[h]
theorem iB {zs:List Int}{m j:Nat}(hj:j<m):(tal zs m)[j]? = some (zs.count (j:Int):Int):=by simp[tal,hj]
theorem sW {zs:List Int}{m j:Nat}(hj:j<m):tal (zs ++ [(j:Int)]) m=(tal zs m).set j ((zs.count (j:Int):Int)+1):=by
 apply List.ext_getElem? ;intro i
 rw[List.getElem?_set]
 simp only[tal,List.getElem?_map,List.length_map,List.length_range]
 by_cases h:j=i
 ·subst h
  simp[hj]
 ·simp only[h,if_false]
  by_cases hn:i<m
  ·simp only[hn,List.getElem?_range,Option.map_some,Option.some.injEq,List.count_append]
   rw[List.count_singleton]
   have:(((j:Int)) == (i:Int))=false:=by simp;omega
   simp[this]
  ·simp[hn]
end
section
open Go Go.RowKit
abbrev INF:Int:=1152921504606846976
abbrev aM:Nat:=1152921504606846976
def hit (xa:List Tri) (p:Bool) (v:Nat) (j:Nat):Bool:=match xa[j]? with | some x=>(if p then x.1 else x.2.1) == (v:Int) | none=>false
def ends (xa:List Tri) (k:Nat) (q:Bool×Nat):List Int:=((List.range k).filter (hit xa q.1 q.2)).map (λj:Nat=>(j:Int))
theorem fC (xa:List Tri) (k:Nat) (q:Bool×Nat):ends xa (k+1) q=if hit xa q.1 q.2 k then ends xa k q ++ [(k:Int)] else ends xa k q:=by
 simp only[ends,List.range_succ,List.filter_append,List.map_append]
 by_cases h:hit xa q.1 q.2 k <;>simp[h]
theorem fD (xa:List Tri) (k:Nat) (q:Bool×Nat):(ends xa k q).length<=k:=by
 simp only[ends,List.length_map]
 exact Nat.le_trans (List.length_filter_le _ _) (by simp)
structure ab where
 vs:List Tri
 xa:List Tri
 ts:List Tab
def ab.Ok (N:ab):Prop:=pH N.vs N.xa N.ts
def ab.na (N:ab):Nat:=N.xa.length
def ab.nv (N:ab):Nat:=N.vs.length
def ab.arc (N:ab) (a:Nat):Tri:=(N.xa[a]?).getD (0,0,0)
def ab.fr (N:ab) (a:Nat):Nat:=(N.arc a).1.toNat
def ab.to (N:ab) (a:Nat):Nat:=(N.arc a).2.1.toNat
def ab.w (N:ab) (a:Nat):Int:=if a<N.na then(N.arc a).2.2 else INF
def ab.tab (N:ab) (v:Nat):Tab:=(N.ts[((N.vs[v]?).getD (0,0,0)).2.2.toNat]?).getD (0,0,[])
def ab.inPl (N:ab) (a:Nat):Nat:=(ends N.xa a (false,N.to a)).length
def ab.outPl (N:ab) (a:Nat):Nat:=(ends N.xa a (true,N.fr a)).length
def df (t:Tab) (i o:Nat):Int:=if(i:Int)<t.1/\(o:Int)<t.2.1 then(t.2.2[i*t.2.1.toNat+o]?).getD INF else INF
def ab.turn (N:ab) (a b:Nat):Int:=if a<N.na/\b<N.na/\N.to a=N.fr b then df (N.tab (N.to a)) (N.inPl a) (N.outPl b) else INF
theorem nF {c:Int}(h:aL c=true):0<=c/\(c=INF\/c<=2147483648):=by
 simp[aL]at h
 unfold INF
 omega
theorem ab.arc_get {N:ab}{a:Nat}(ha:a<N.na):N.xa[a]? = some (N.arc a):=by
 unfold ab.na at ha
 simp[ab.arc,List.getElem?_eq_getElem ha]
theorem ab.arc_mem {N:ab}{a:Nat}(ha:a<N.na):N.arc a∈N.xa:=List.mem_of_getElem? (N.arc_get ha)
section
variable {N:ab}(hok:N.Ok)
include hok
theorem ab.fr_lt {a:Nat}(ha:a<N.na):N.fr a<N.nv/\(N.arc a).1=(N.fr a:Int):=by
 have:=(hok.arcs_ _ (N.arc_mem ha)).1
 unfold ab.fr ab.nv
 omega
theorem ab.to_lt {a:Nat}(ha:a<N.na):N.to a<N.nv/\(N.arc a).2.1=(N.to a:Int):=by
 have:=(hok.arcs_ _ (N.arc_mem ha)).2.1
 unfold ab.to ab.nv
 omega
theorem ab.w_bd (a:Nat):0<=N.w a/\(N.w a=INF\/N.w a<=2147483648):=by
 unfold ab.w
 by_cases h:a<N.na
 ·rw[if_pos h]
  exact nF (hok.arcs_ _ (N.arc_mem h)).2.2
 ·rw[if_neg h]
  exact⟨by decide,.inl rfl⟩
theorem ab.tab_ok {v:Nat}(hv:v<N.nv):cg (N.tab v).1 (N.tab v).2.1 (N.tab v).2.2/\∃t x,N.vs[v]? = some x/\N.ts[x.2.2.toNat]? = some t/\t=N.tab v/\0<=x.2.2/\x.2.2<N.ts.length:=by
 have h1:N.vs[v]? = some (N.vs[v]'hv):=List.getElem?_eq_getElem hv
 have h2:=(hok.verts_ _ (List.mem_of_getElem? h1)).2.2
 have h3:((N.vs[v]'hv).2.2.toNat)<N.ts.length:=by omega
 have h4:N.ts[(N.vs[v]'hv).2.2.toNat]? = some (N.ts[(N.vs[v]'hv).2.2.toNat]'h3):=List.getElem?_eq_getElem h3
 have h5:N.tab v=N.ts[(N.vs[v]'hv).2.2.toNat]'h3:=by simp[ab.tab,h1,h4]
 rw[h5]
 exact⟨hok.types_ _ (List.mem_of_getElem? h4),_,_,h1,h4,rfl,h2⟩
theorem y9 {t:Tab}(ht:cg t.1 t.2.1 t.2.2) (i o:Nat):0<=df t i o/\(df t i o=INF\/df t i o<=2147483648):=by
 unfold df
 split
 ·cases h:t.2.2[i*t.2.1.toNat+o]? with
  | none=>exact⟨by decide,.inl rfl⟩
  | some c=>exact nF (ht.cost _ (List.mem_of_getElem? h))
 ·exact⟨by decide,.inl rfl⟩
theorem ab.turn_bd (a b:Nat):0<=N.turn a b/\(N.turn a b=INF\/N.turn a b<=2147483648):=by
 unfold ab.turn
 split
 ·rename_i h
  exact y9 hok (ab.tab_ok hok (ab.to_lt hok h.1).1).1 _ _
 ·exact⟨by decide,.inl rfl⟩
end
def ab.tr (N:ab) (a b:Nat):Option Nat:=if N.turn a b<INF then some (N.turn a b).toNat else none
def ab.ok (N:ab) (a:Nat):Bool:=decide (N.w a<INF)
def ab.wn (N:ab) (a:Nat):Nat:=(N.w a).toNat
def ab.e (N:ab) (a b:Nat):Option Nat:=eT N.tr N.ok N.wn a b
theorem ab.tr_some {N:ab}{a b x:Nat}:N.tr a b=some x↔N.turn a b<INF/\x=(N.turn a b).toNat:=by
 unfold ab.tr
 by_cases h:N.turn a b<INF
 ·rw[if_pos h]
  simp[h,eq_comm]
 ·rw[if_neg h]
  simp[h]
theorem ab.turn_in {N:ab}{a b:Nat}(h:N.turn a b<INF):a<N.na/\b<N.na/\N.to a=N.fr b:=by
 unfold ab.turn at h
 split at h
 ·assumption
 ·exact absurd h (by decide)
theorem ab.e_some {N:ab}{a b x:Nat}:N.e a b=some x↔N.turn a b<INF/\N.w b<INF/\x=(N.turn a b).toNat+(N.w b).toNat:=by
 unfold ab.e
 rw[qZ]
 constructor
 ·rintro⟨t,h1,h2,rfl⟩
  obtain⟨h3,rfl⟩:=ab.tr_some.1 h1
  exact⟨h3,by simpa[ab.ok]using h2,rfl⟩
 ·rintro⟨h1,h2,rfl⟩
  exact⟨_,ab.tr_some.2 ⟨h1,rfl⟩,by simpa[ab.ok]using h2,rfl⟩
theorem ab.e_ends {N:ab}{a b x:Nat}(h:N.e a b=some x):N.fr b=N.to a:=(ab.turn_in (ab.e_some.1 h).1).2.2.symm
theorem ab.tr_ends {N:ab}{a b x:Nat}(h:N.tr a b=some x):N.fr b=N.to a:=(ab.turn_in (ab.tr_some.1 h).1).2.2.symm
def cel (p:List (List Int)) (k v:Nat):Nat:=((((p[k - 1]?).getD [])[v]?).getD 0).toNat
def ab.inA (N:ab) (p:List (List Int)) (k c a:Nat):Prop:=cel p k (N.to a)=c/\cel p k (N.fr a)≠c
def ab.outA (N:ab) (p:List (List Int)) (k c a:Nat):Prop:=cel p k (N.fr a)=c/\cel p k (N.to a)≠c
def ab.win (N:ab) (p:List (List Int)) (k c a:Nat):Prop:=cel p k (N.fr a)=c/\cel p k (N.to a)=c
structure fE (N:ab) (P:Nat->Prop) (a b:Nat) (v:Int):Prop where
 bd:0<=v/\v<=INF
 least:∀d c y,an N.e P a d c->N.tr d b=some y->v<=((c+y:Nat):Int)
 way:v<INF->∃d c y,an N.e P a d c/\N.tr d b=some y/\v=((c+y:Nat):Int)
theorem fE.one {N:ab}{P:Nat->Prop}{a b:Nat}{v v':Int}(h:fE N P a b v) (h':fE N P a b v'):v=v':=by
 have k1:=h.bd
 have k2:=h'.bd
 have f:∀{x y:Int},fE N P a b x->fE N P a b y->x<INF->y<=x:=λhx hy hl=>by
  obtain⟨d,c,y,g1,g2,rfl⟩:=hx.way hl
  exact hy.least d c y g1 g2
 rcases Int.lt_trichotomy v v' with g | g | g
 ·have:=f h h' (by omega);omega
 ·exact g
 ·have:=f h' h (by omega);omega
def gD (p:List (List Int)) (v a b:Nat):Nat->Nat
 | 0=>0
 | k+1=>if cel p (k+1) v≠cel p (k+1) a/\cel p (k+1) v≠cel p (k+1) b then k+1 else gD p v a b k
theorem jX (p:List (List Int)) (v a b:Nat):∀k,gD p v a b k<=k
 | 0=>Nat.le_refl _
 | k+1=>by
  unfold gD
  split
  ·exact Nat.le_refl _
  ·exact Nat.le_trans (jX p v a b k) (Nat.le_succ _)
theorem pI {p:List (List Int)}{v a b:Nat}:∀{k:Nat},0<gD p v a b k->cel p (gD p v a b k) v≠cel p (gD p v a b k) a/\cel p (gD p v a b k) v≠cel p (gD p v a b k) b
 | 0,h=>absurd h (Nat.lt_irrefl 0)
 | k+1,h=>by
  unfold gD at h⊢
  split
  ·assumption
  ·rename_i hn
   rw[if_neg hn]at h
   exact pI h
theorem pJ {p:List (List Int)}{v a b:Nat}:∀{k j:Nat},gD p v a b k<j->j<=k->cel p j v=cel p j a\/cel p j v=cel p j b
 | 0,j,h1,h2=>by omega
 | k+1,j,h1,h2=>by
  unfold gD at h1
  split at h1
  ·omega
  ·rename_i hn
   by_cases hj:j=k+1
   ·subst hj
    by_cases h3:cel p (k+1) v=cel p (k+1) a
    ·exact .inl h3
    ·by_cases h4:cel p (k+1) v=cel p (k+1) b
     ·exact .inr h4
     ·exact absurd ⟨h3,h4⟩ hn
   ·exact pJ h1 (by omega)
def ab.lev (N:ab) (p:List (List Int)) (s t:Nat) (v:Nat):Nat:=gD p (min v (N.nv - 1)) (N.to s) (N.fr t) p.length
def pK (N:ab) (p:List (List Int)) (ent:Nat->Nat->Nat->Int):Prop:=
 ∀k a b,1<=k->k<=p.length->a<N.na->b<N.na->N.inA p k (cel p k (N.to a)) a->N.outA p k (cel p k (N.to a)) b->fE N (N.win p k (cel p k (N.to a))) a b (ent k a b)
open Classical in
noncomputable def ab.lp (N:ab) (p:List (List Int)) (ent:Nat->Nat->Nat->Int) (lev:Nat->Nat) (a b:Nat):Option Nat:=
 if a<N.na/\b<N.na/\N.inA p (lev (N.to a)) (cel p (lev (N.to a)) (N.to a)) a/\N.outA p (lev (N.to a)) (cel p (lev (N.to a)) (N.to a)) b/\ent (lev (N.to a)) a b<INF/\N.w b<INF then some ((ent (lev (N.to a)) a b).toNat+(N.w b).toNat) else none
section
variable {N:ab}{p:List (List Int)}{ent:Nat->Nat->Nat->Int}
theorem bW (hp:ax N.nv p){l k u v:Nat}(h1:1<=l) (h2:l<=k) (h3:k<=p.length) (hu:u<N.nv) (hv:v<N.nv) (h:cel p l u=cel p l v):cel p k u=cel p k v:=by
 have get:∀j,1<=j->j<=p.length->∃r,p[j - 1]? = some r/\r.length=N.nv/\∀x∈r,0<=x:=λj j1 j2=>by
  have:j - 1<p.length:=by omega
  exact⟨p[j - 1],List.getElem?_eq_getElem this,hp.rows _ (List.getElem_mem this),λx hx=>(hp.inr _ (List.getElem_mem this) x hx).1⟩
 have val:∀j r,p[j - 1]? = some r->r.length=N.nv->(∀x∈r,0<=x)->∀x,x<N.nv->∃y,r[x]? = some y/\(cel p j x:Int)=y:=λj r h1 h2 h3 x hx=>by
  have hl:x<r.length:=by omega
  refine⟨r[x],List.getElem?_eq_getElem hl,?_⟩
  simp[cel,h1,List.getElem?_eq_getElem hl]
  have:=h3 _ (List.getElem_mem hl)
  omega
 induction k with
 | zero=>omega
 | succ k ih=>
  by_cases hk:l=k+1
  ·subst hk;exact h
  ·have h4:=ih (by omega) (by omega)
   obtain⟨r1,g1,g2,g3⟩:=get k (by omega) (by omega)
   obtain⟨r2,g4,g5,g6⟩:=get (k+1) (by omega) h3
   obtain⟨y1,k1,k2⟩:=val _ _ g1 g2 g3 u hu
   obtain⟨y2,k3,k4⟩:=val _ _ g1 g2 g3 v hv
   obtain⟨y3,k5,k6⟩:=val _ _ g4 g5 g6 u hu
   obtain⟨y4,k7,k8⟩:=val _ _ g4 g5 g6 v hv
   have e1:y1=y2:=by rw[<-k2,<-k4,h4]
   subst e1
   have:=(hp.nest (k - 1) r1 r2 g1 (by rw[show k - 1+1=k by omega];simpa using g4)).eq k1 k3 k5 k7
   omega
theorem an.mem {e:Nat->Nat->Option Nat}{P:Nat->Prop}{a d c:Nat}(h:an e P a d c):d=a\/P d:=by
 cases h with
 | here=>exact .inl rfl
 | on _ _ h=>exact .inr h
theorem an.start {e:Nat->Nat->Option Nat}{P:Nat->Prop}{a d c:Nat}(h:an e P a d c):d=a\/∃b x,e a b=some x:=by
 induction h with
 | here=>exact .inl rfl
 | @on b d c x hw he hp ih=>
  rcases ih with rfl | ih
  ·exact .inr ⟨d,x,he⟩
  ·exact .inr ih
theorem pK.leaps (hok:N.Ok) (hp:ax N.nv p) (he:pK N p ent){s t:Nat}(hs:s<N.na) (ht:t<N.na) :
  nz aM p.length N.e (N.lp p ent (N.lev p s t)) N.fr N.to (λk v=>cel p k (min v (N.nv - 1))) (N.lev p s t) s t:=by
 have hts:=(ab.to_lt hok hs).1
 have hft:=(ab.fr_lt hok ht).1
 have lt:∀a,N.to a<N.nv/\N.fr a<N.nv:=λa=>by
  by_cases ha:a<N.na
  ·exact⟨(ab.to_lt hok ha).1,(ab.fr_lt hok ha).1⟩
  ·have:N.arc a=(0,0,0):=by simp[ab.arc,List.getElem?_eq_none (Nat.le_of_not_lt ha)]
   simp[ab.to,ab.fr,this]
   omega
 have mn:∀v,v<N.nv->min v (N.nv - 1)=v:=λv hv=>by omega
 have hw:∀k c a,(cel p k (min (N.fr a) (N.nv - 1))=c/\cel p k (min (N.to a) (N.nv - 1))=c)↔N.win p k c a:=λk c a=>by
  rw[mn _ (lt a).1,mn _ (lt a).2];rfl
 refine⟨λa b x h=>ab.e_ends h,λl k u v h1 h2 h3 h4=>bW hp h1 h2 h3 (by omega) (by omega) h4,λv=>jX _ _ _ _ _,λv hv=>?_,λv k h1 h2=>?_,λa b x hl h=>?_,λa d c b y hl hin hw0 hy hfb htb hI=>?_⟩
 ·have:=pI hv
  refine⟨?_,?_⟩
  ·show cel p _ (min v (N.nv - 1))≠cel p _ (min (N.to s) (N.nv - 1))
   rw[mn _ hts]
   exact this.1
  ·show cel p _ (min v (N.nv - 1))≠cel p _ (min (N.fr t) (N.nv - 1))
   rw[mn _ hft]
   exact this.2
 ·have:=pJ h1 h2
  show cel p _ (min v (N.nv - 1))=cel p _ (min (N.to s) (N.nv - 1))\/cel p _ (min v (N.nv - 1))=cel p _ (min (N.fr t) (N.nv - 1))
  rw[mn _ hts,mn _ hft]
  exact this
 ·unfold ab.lp at h
  split at h
  ·rename_i hc
   obtain⟨ha,hb,h1,h2,h3,h4⟩:=hc
   injection h with h
   have T:=he _ a b hl (jX _ _ _ _ _) ha hb h1 h2
   obtain⟨d,c,y,g1,g2,g3⟩:=T.way h3
   refine⟨d,c,y+(N.w b).toNat,g1.mono λd hd=>?_,?_,?_⟩
   ·have h9:=(hw _ _ d).2 hd
    simpa only[mn (N.to a) (lt a).1]using h9
   ·obtain⟨k1,rfl⟩:=ab.tr_some.1 g2
    exact ab.e_some.2 ⟨k1,h4,rfl⟩
   ·omega
  ·cases h
 ·obtain⟨k1,k2,rfl⟩:=ab.e_some.1 hy
  have ha:a<N.na:=by
   rcases hw0.start with rfl | ⟨b',x',hx⟩
   ·exact(ab.turn_in k1).1
   ·exact(ab.turn_in (ab.e_some.1 hx).1).1
  have hb:b<N.na:=(ab.turn_in k1).2.1
  simp only[mn _ (lt _).1,mn _ (lt _).2]at hin hfb htb
  have T:=he _ a b hl (jX _ _ _ _ _) ha hb ⟨rfl,hin⟩ ⟨hfb,htb⟩
  have h5:=T.least d c _ (hw0.mono λd hd=>(by
   have h9:=hd
   simp only[mn (N.to a) (lt a).1]at h9
   exact(hw _ _ d).1 h9)) (ab.tr_some.2 ⟨k1,rfl⟩)
  have h6:=T.bd
  have hI2:c+((N.turn d b).toNat+(N.w b).toNat)<1152921504606846976:=hI
  have h7:ent (N.lev p s t (N.to a)) a b<INF:=by
   show _<(1152921504606846976:Int)
   omega
  refine⟨_,by rw[ab.lp,if_pos ⟨ha,hb,⟨rfl,hin⟩,⟨hfb,htb⟩,h7,k2⟩],?_⟩
  omega
end
end
section
open Go Go.RowKit
def bw (f:Nat->Nat):Nat->Nat
 | 0=>0
 | n+1=>bw f n+f n
theorem xl (f:Nat->Nat){a b:Nat}(h:a<=b):bw f a<=bw f b:=by
 induction b with
 | zero=>rw[Nat.le_zero.1 h];exact Nat.le_refl _
 | succ b ih=>
  by_cases e:a=b+1
  ·subst e;exact Nat.le_refl _
  ·exact Nat.le_trans (ih (by omega)) (Nat.le_add_right _ _)
theorem fF (f:Nat->Nat){a b:Nat}(h:a<b):bw f a+f a<=bw f b:=xl f (a:=a+1) h
theorem Ba {f:Nat->Nat}{m:Nat}(h:∀i,f i<=m) (n:Nat):bw f n<=n*m:=by
 induction n with
 | zero=>simp[bw]
 | succ n ih=>rw[bw,Nat.succ_mul];have:=h n;omega
def bD (f:Nat->Bool) (n:Nat):List Nat:=(List.range n).filter f
theorem gf (f:Nat->Bool) (n:Nat):bD f (n+1)=if f n then bD f n ++ [n] else bD f n:=by
 simp only[bD,List.range_succ,List.filter_append]
 by_cases h:f n <;>simp[h]
theorem aC (f:Nat->Bool) (n:Nat):(bD f n).length<=n:=Nat.le_trans (List.length_filter_le _ _) (by simp)
theorem kT {f:Nat->Bool}{n a:Nat}:a∈bD f n↔a<n/\f a=true:=by simp[bD]
theorem aV (f:Nat->Bool) (n:Nat):(bD f n).Pairwise (· < ·):=List.Pairwise.filter _ List.pairwise_lt_range
theorem iC {l:List Nat}(h:l.Pairwise (· < ·)){i j a b:Nat}(hi:l[i]? = some a) (hj:l[j]? = some b) (hij:i<j):a<b:=by
 have h1:=(List.getElem?_eq_some_iff.1 hi)
 have h2:=(List.getElem?_eq_some_iff.1 hj)
 rw[<-h1.2,<-h2.2]
 exact List.pairwise_iff_getElem.1 h i j h1.1 h2.1 hij
theorem gg {l:List Nat}(h:l.Pairwise (· < ·)){i j a:Nat}(hi:l[i]? = some a) (hj:l[j]? = some a):i=j:=by
 rcases Nat.lt_trichotomy i j with g | g | g
 ·exact absurd (iC h hi hj g) (Nat.lt_irrefl _)
 ·exact g
 ·exact absurd (iC h hj hi g) (Nat.lt_irrefl _)
def ap (p:List (List Int)) (k:Nat):Nat:=(aI ((p[k - 1]?).getD [])).toNat
def ab.insB (N:ab) (p:List (List Int)) (k c a:Nat):Bool:=decide (cel p k (N.to a)=c) && decide (cel p k (N.fr a)≠c)
def ab.outsB (N:ab) (p:List (List Int)) (k c a:Nat):Bool:=decide (cel p k (N.fr a)=c) && decide (cel p k (N.to a)≠c)
def ab.ins (N:ab) (p:List (List Int)) (k c:Nat):List Nat:=bD (N.insB p k c) N.na
def ab.outs (N:ab) (p:List (List Int)) (k c:Nat):List Nat:=bD (N.outsB p k c) N.na
theorem ab.mem_ins {N:ab}{p:List (List Int)}{k c a:Nat}:a∈N.ins p k c↔a<N.na/\N.inA p k c a:=by
 simp[ab.ins,kT,ab.insB,ab.inA]
theorem ab.mem_outs {N:ab}{p:List (List Int)}{k c a:Nat}:a∈N.outs p k c↔a<N.na/\N.outA p k c a:=by
 simp[ab.outs,kT,ab.outsB,ab.outA]
def ab.sz (N:ab) (p:List (List Int)) (k c:Nat):Nat:=(N.ins p k c).length*(N.outs p k c).length
def ab.lsz (N:ab) (p:List (List Int)) (j:Nat):Nat:=bw (N.sz p (j+1)) (ap p (j+1))
def ab.start (N:ab) (p:List (List Int)) (k c:Nat):Nat:=bw (N.lsz p) (k - 1)+bw (N.sz p k) c
def ab.size (N:ab) (p:List (List Int)):Nat:=bw (N.lsz p) p.length
section
variable {N:ab}{p:List (List Int)}
theorem ab.start_next {k c c':Nat}(h:c<c'):N.start p k c+N.sz p k c<=N.start p k c':=by
 have:=fF (N.sz p k) h
 unfold ab.start
 omega
theorem ab.start_up {k k' c c':Nat}(hk:1<=k) (h:k<k') (hc:c<ap p k):N.start p k c+N.sz p k c<=N.start p k' c':=by
 have h1:=fF (N.sz p k) hc
 have h2:=fF (N.lsz p) (a:=k - 1) (b:=k' - 1) (by omega)
 have h3:N.lsz p (k - 1)=bw (N.sz p k) (ap p k):=by unfold ab.lsz;rw[show k - 1+1=k by omega]
 unfold ab.start
 omega
theorem ab.start_end {k c:Nat}(hk:1<=k) (hkl:k<=p.length) (hc:c<ap p k):N.start p k c+N.sz p k c<=N.size p:=by
 have h1:=fF (N.sz p k) hc
 have h2:=fF (N.lsz p) (a:=k - 1) (b:=p.length) (by omega)
 have h3:N.lsz p (k - 1)=bw (N.sz p k) (ap p k):=by unfold ab.lsz;rw[show k - 1+1=k by omega]
 unfold ab.start ab.size
 omega
theorem ab.start_lev {k:Nat}(hk:1<=k):N.start p (k+1) 0=N.start p k (ap p k):=by
 unfold ab.start
 obtain⟨j,rfl⟩:∃j,k=j+1:=⟨k - 1,by omega⟩
 simp[bw,ab.lsz]
theorem ab.start_one:N.start p 1 0=0:=by simp[ab.start,bw]
theorem ab.start_cell {k c:Nat}:N.start p k (c+1)=N.start p k c+N.sz p k c:=by simp[ab.start,bw,Nat.add_assoc]
end
theorem lB {i j m n:Nat}(hi:i<m) (hj:j<n):i*n+j<m*n:=by
 have:(i+1)*n<=m*n:=Nat.mul_le_mul_right _ hi
 rw[Nat.succ_mul]at this
 omega
def at_ (costs:List Int) (i:Nat):Int:=(costs[i]?).getD 0
def bo (N:ab) (p:List (List Int)) (costs:List Int) (k c:Nat):Prop:=
 ∀i j a b,(N.ins p k c)[i]? = some a->(N.outs p k c)[j]? = some b->fE N (N.win p k c) a b (at_ costs (N.start p k c+(i*(N.outs p k c).length+j)))
def ch (N:ab) (p:List (List Int)) (costs:List Int):Prop:=costs.length=N.size p/\∀k c,1<=k->k<=p.length->c<ap p k->bo N p costs k c
def Ce (N:ab) (p:List (List Int)) (k c:Nat) (l:List Int):Prop:=
 l.length=N.sz p k c/\∀i j a b,(N.ins p k c)[i]? = some a->(N.outs p k c)[j]? = some b->fE N (N.win p k c) a b (at_ l (i*(N.outs p k c).length+j))
def ab.ent (N:ab) (p:List (List Int)) (costs:List Int) (k a b:Nat):Int:=
 at_ costs (N.start p k (cel p k (N.to a))+((N.ins p k (cel p k (N.to a))).idxOf a*(N.outs p k (cel p k (N.to a))).length+(N.outs p k (cel p k (N.to a))).idxOf b))
theorem aN {l:List Nat}{a:Nat}(h:a∈l):l[l.idxOf a]? = some a:=by
 have h1:=List.idxOf_lt_length_of_mem h
 rw[List.getElem?_eq_getElem h1]
 simp
theorem cE {nv:Nat}{p:List (List Int)}(hp:ax nv p){k v:Nat}(h1:1<=k) (h2:k<=p.length) (hv:v<nv):cel p k v<ap p k:=by
 have hk:k - 1<p.length:=by omega
 have h3:p[k - 1]? = some p[k - 1]:=List.getElem?_eq_getElem hk
 have hl:=hp.rows _ (List.getElem_mem hk)
 have hv':v<p[k - 1].length:=by omega
 have h4:p[k - 1][v]? = some (p[k - 1][v]):=List.getElem?_eq_getElem hv'
 have h5:=kS (List.getElem_mem hv')
 have h6:=hp.inr _ (List.getElem_mem hk) _ (List.getElem_mem hv')
 unfold cel ap
 rw[h3,Option.getD_some,h4,Option.getD_some]
 omega
theorem ch.entOk {N:ab}{p:List (List Int)}{costs:List Int}(hok:N.Ok) (hp:ax N.nv p) (h:ch N p costs):pK N p (N.ent p costs):=by
 intro k a b h1 h2 ha hb hin hout
 have hc:=cE hp h1 h2 (ab.to_lt hok ha).1
 exact h.2 k _ h1 h2 hc _ _ a b (aN (ab.mem_ins.2 ⟨ha,hin⟩)) (aN (ab.mem_outs.2 ⟨hb,hout⟩))
def dF (costs l:List Int) (i:Nat):List Int:=costs.take i ++ l ++ costs.drop (i+l.length)
theorem pL {costs l:List Int}{i:Nat}(h:i+l.length<=costs.length):(dF costs l i).length=costs.length:=by
 simp[dF];omega
theorem za {costs l:List Int}{i j:Nat}(h:i+l.length<=costs.length) (hj:j<l.length):at_ (dF costs l i) (i+j)=at_ l j:=by
 unfold at_ dF
 rw[List.append_assoc,List.getElem?_append_right (by simp;omega)]
 rw[List.length_take,Nat.min_eq_left (by omega),Nat.add_sub_cancel_left,List.getElem?_append_left hj]
theorem xm {costs l:List Int}{i j:Nat}(h:i+l.length<=costs.length) (hj:j<i\/i+l.length<=j):at_ (dF costs l i) j=at_ costs j:=by
 unfold at_ dF
 rcases hj with hj | hj
 ·rw[List.append_assoc,List.getElem?_append_left (by simp;omega),List.getElem?_take]
  simp[hj]
 ·rw[List.getElem?_append_right (by simp;omega)]
  simp only[List.length_append,List.length_take]
  rw[Nat.min_eq_left (by omega),List.getElem?_drop]
  congr 2
  omega
section
variable {N:ab}{p:List (List Int)}{costs l:List Int}
theorem bo.put (hl:costs.length=N.size p){k c:Nat}(h1:1<=k) (h2:k<=p.length) (hc:c<ap p k) (h:Ce N p k c l):bo N p (dF costs l (N.start p k c)) k c:=by
 intro i j a b hi hj
 have h3:=ab.start_end (N:=N) h1 h2 hc
 have h4:i*(N.outs p k c).length+j<l.length:=by rw[h.1];exact lB (List.getElem?_eq_some_iff.1 hi).1 (List.getElem?_eq_some_iff.1 hj).1
 rw[za (by rw[h.1,hl];exact h3) h4]
 exact h.2 i j a b hi hj
theorem bo.putO (hl:costs.length=N.size p){k c k' c':Nat}(h1:1<=k) (h2:k<=p.length) (hc:c<ap p k) (h:l.length=N.sz p k c) (h1':1<=k') (h2':k'<=p.length) (hc':c' < ap p k') (hne:¬(k=k'/\c=c')) (hold:bo N p costs k' c') :
  bo N p (dF costs l (N.start p k c)) k' c':=by
 intro i j a b hi hj
 have h3:=ab.start_end (N:=N) h1 h2 hc
 have h4:i*(N.outs p k' c').length+j<N.sz p k' c':=lB (List.getElem?_eq_some_iff.1 hi).1 (List.getElem?_eq_some_iff.1 hj).1
 rw[xm (by rw[h,hl];exact h3) ?_]
 ·exact hold i j a b hi hj
 ·rw[h]
  rcases Nat.lt_trichotomy k k' with g | g | g
  ·have:=ab.start_up (N:=N) (c':=c') h1 g hc
   omega
  ·subst g
   rcases Nat.lt_trichotomy c c' with g | g | g
   ·have:=ab.start_next (N:=N) (p:=p) (k:=k) g
    omega
   ·exact absurd ⟨rfl,g⟩ hne
   ·have:=ab.start_next (N:=N) (p:=p) (k:=k) g
    omega
  ·have:=ab.start_up (N:=N) (c':=c) h1' g hc'
   omega
end
end
section
open Go
def HLe (c:Nat->Int) (a b:Nat):Prop:=c a<c b\/(c a=c b/\a<=b)
theorem HLe.refl (c:Nat->Int) (a:Nat):HLe c a a:=.inr ⟨rfl,Nat.le_refl _⟩
theorem HLe.trans {c:Nat->Int}{a b d:Nat}(h:HLe c a b) (k:HLe c b d):HLe c a d:=by
 unfold HLe at *
 omega
def sw (r:Nat->Nat) (i j:Nat):Nat->Nat:=λx=>if x=i then r j else if x=j then r i else r x
theorem xp (r:Nat->Nat) (i j:Nat):sw r i j i=r j:=by simp[sw]
theorem CV (r:Nat->Nat) (i j:Nat):sw r i j j=r i:=by
 by_cases h:j=i
 ·subst h;simp[sw]
 ·simp[sw,h]
theorem oZ (r:Nat->Nat){i j x:Nat}(h1:x≠i) (h2:x≠j):sw r i j x=r x:=by simp[sw,h1,h2]
def dQ (c:Nat->Int) (r:Nat->Nat) (n:Nat):Prop:=∀j,0<j->j<n->HLe c (r ((j - 1) / 2)) (r j)
structure UpR (c:Nat->Int) (r:Nat->Nat) (n i:Nat):Prop where
 one:∀j,0<j->j<n->j≠i->HLe c (r ((j - 1) / 2)) (r j)
 two:∀j,0<j->j<n->(j - 1) / 2=i->0<i->HLe c (r ((i - 1) / 2)) (r j)
structure fG (c:Nat->Int) (r:Nat->Nat) (n i:Nat):Prop where
 one:∀j,0<j->j<n->(j - 1) / 2≠i->HLe c (r ((j - 1) / 2)) (r j)
 two:∀j,0<j->j<n->(j - 1) / 2=i->0<i->HLe c (r ((i - 1) / 2)) (r j)
section
variable {c:Nat->Int}{r:Nat->Nat}{n i:Nat}
theorem UpR.step (h:UpR c r n i) (hi:0<i) (hn:i<n) (hl:HLe c (r i) (r ((i - 1) / 2))):UpR c (sw r i ((i - 1) / 2)) n ((i - 1) / 2):=by
 obtain⟨p,hp⟩:∃p,(i - 1) / 2=p:=⟨_,rfl⟩
 rw[hp]at hl⊢
 have hpi:p<i:=by omega
 refine⟨λj h1 h2 h3=>?_,λj h1 h2 h3 h4=>?_⟩
 ·by_cases e1:j=i
  ·subst e1
   rw[hp,CV,xp]
   exact hl
  ·rw[oZ r e1 h3]
   by_cases e2:(j - 1) / 2=i
   ·rw[e2,xp,<-hp]
    exact h.two j h1 h2 e2 hi
   ·by_cases e3:(j - 1) / 2=p
    ·rw[e3,CV]
     have:=h.one j h1 h2 e1
     rw[e3]at this
     exact hl.trans this
    ·rw[oZ r e2 e3]
     exact h.one j h1 h2 e1
 ·have e0:(p - 1) / 2≠i:=by omega
  have e1:(p - 1) / 2≠p:=by omega
  rw[oZ r e0 e1]
  have h5:=h.one p h4 (by omega) (by omega)
  by_cases e2:j=i
  ·subst e2
   rw[xp]
   exact h5
  ·rw[oZ r e2 (by omega)]
   have:=h.one j h1 h2 e2
   rw[h3]at this
   exact h5.trans this
theorem UpR.done (h:UpR c r n i) (hl:i=0\/HLe c (r ((i - 1) / 2)) (r i)):dQ c r n:=λj h1 h2=>by
 by_cases e:j=i
 ·subst e
  rcases hl with h0 | h0
  ·omega
  ·exact h0
 ·exact h.one j h1 h2 e
theorem fG.step (h:fG c r n i){m:Nat}(hm:(m - 1) / 2=i) (hm0:0<m) (hn:m<n) (hl:HLe c (r m) (r i)) (ha:∀j,0<j->j<n->(j - 1) / 2=i->HLe c (r m) (r j)):fG c (sw r i m) n m:=by
 have him:i<m:=by omega
 refine⟨λj h1 h2 h3=>?_,λj h1 h2 h3 h4=>?_⟩
 ·by_cases e1:(j - 1) / 2=i
  ·rw[e1,xp]
   by_cases e2:j=m
   ·subst e2
    rw[CV]
    exact hl
   ·rw[oZ r (by omega) e2]
    exact ha j h1 h2 e1
  ·rw[oZ r e1 h3]
   by_cases e2:j=i
   ·subst e2
    rw[xp]
    exact h.two m hm0 hn hm h1
   ·rw[oZ r e2 (λe=>e1 (by rw[e];exact hm))]
    exact h.one j h1 h2 e1
 ·rw[hm,xp,oZ r (by omega) (by omega)]
  have:=h.one j h1 h2 (by omega)
  rw[h3]at this
  exact this
theorem fG.done (h:fG c r n i) (ha:∀j,0<j->j<n->(j - 1) / 2=i->HLe c (r i) (r j)):dQ c r n:=λj h1 h2=>by
 by_cases e:(j - 1) / 2=i
 ·rw[e]
  exact ha j h1 h2 e
 ·exact h.one j h1 h2 e
theorem dQ.top (h:dQ c r n):∀j,j<n->HLe c (r 0) (r j):=by
 intro j
 induction j using Nat.strongRecOn with
 | ind j ih=>
  intro hj
  by_cases e:j=0
  ·subst e
   exact HLe.refl _ _
  ·exact(ih ((j - 1) / 2) (by omega) (by omega)).trans (h j (by omega) hj)
theorem dQ.pop (h:dQ c r (n+1)):fG c (sw r 0 n) n 0:=by
 refine⟨λj h1 h2 h3=>?_,λj h1 h2 h3 h4=>by omega⟩
 rw[oZ r h3 (by omega),oZ r (by omega) (by omega)]
 exact h j h1 (by omega)
theorem dQ.put (h:dQ c r n) (k:Nat):UpR c (λx=>if x=n then k else r x) (n+1) n:=by
 refine⟨λj h1 h2 h3=>?_,λj h1 h2 h3 h4=>by omega⟩
 simp only[if_neg h3,if_neg (show(j - 1) / 2≠n by omega)]
 exact h j h1 (by omega)
theorem dQ.other (h:dQ c r n){k:Nat}{v:Int}(hk:∀j,j<n->r j≠k):dQ (λx=>if x=k then v else c x) r n:=λj h1 h2=>by
 have:=h j h1 h2
 unfold HLe at this⊢
 simp only[if_neg (hk j h2),if_neg (hk ((j - 1) / 2) (by omega))]
 exact this
theorem dQ.less (h:dQ c r n){v:Int}(hi:i<n) (hv:v<=c (r i)) (hd:∀j,j<n->r j=r i->j=i):UpR (λx=>if x=r i then v else c x) r n i:=by
 refine⟨λj h1 h2 h3=>?_,λj h1 h2 h3 h4=>?_⟩
 ·have h5:=h j h1 h2
  have e1:r j≠r i:=λe=>h3 (hd j h2 e)
  unfold HLe at h5⊢
  simp only[if_neg e1]
  by_cases e2:(j - 1) / 2=i
  ·rw[e2]at h5⊢
   simp only[if_true]
   omega
  ·have e3:r ((j - 1) / 2)≠r i:=λe=>e2 (hd _ (by omega) e)
   simp only[if_neg e3]
   exact h5
 ·have h5:=h j h1 h2
  have h6:=h i h4 hi
  rw[h3]at h5
  have h7:=h6.trans h5
  have e1:r j≠r i:=λe=>by have:=hd j h2 e;omega
  have e3:r ((i - 1) / 2)≠r i:=λe=>by have:=hd _ (by omega) e;omega
  unfold HLe at h7⊢
  simp only[if_neg e1,if_neg e3]
  exact h7
end
end
section
open Go Go.RowKit
def ab.endsL (N:ab) (p:Bool):List (List Int):=(List.range N.nv).map λv=>ends N.xa N.na (p,v)
def ab.plL (N:ab):List (Int×Int):=(List.range N.na).map λa=>((N.inPl a:Int),(N.outPl a:Int))
section
variable {N:ab}
def ab.from_ (N:ab) (v:Nat):List Nat:=bD (hit N.xa true v) N.na
end
section
variable {N:ab}
theorem ab.from_ints (N:ab) (v:Nat):ends N.xa N.na (true,v)=(N.from_ v).map λa:Nat=>(a:Int):=rfl
end
section
variable {N:ab}
theorem ab.mem_from {N:ab}(hok:N.Ok){v a:Nat}:a∈N.from_ v↔a<N.na/\N.fr a=v:=by
 unfold ab.from_
 rw[kT]
 constructor
 ·rintro⟨h1,h2⟩
  refine⟨h1,?_⟩
  have h3:=(ab.fr_lt hok h1).2
  simp[hit,N.arc_get h1]at h2
  omega
 ·rintro⟨h1,h2⟩
  refine⟨h1,?_⟩
  have h3:=(ab.fr_lt hok h1).2
  simp[hit,N.arc_get h1]
  omega
end
section
variable {A:Option Addr}{l:List Nat}
def bg (l:List Nat) (a:Nat):Int:=if a∈l then(l.idxOf a:Int) else -1
end
def ints (l:List Nat):List Int:=l.map λx:Nat=>(x:Int)
def ab.gatesL (N:ab) (p:List (List Int)) (k:Nat):List (List Int×List Int):=(List.range (ap p k)).map λc=>(ints (N.ins p k c),ints (N.outs p k c))
def ab.startsL (N:ab) (p:List (List Int)) (k:Nat):List Int:=(List.range (ap p k)).map λc=>((N.start p k c:Nat):Int)
def dG (row:List Nat):List Int:=row.map λk:Nat=>(k:Int)
theorem cQ {row:List Nat}{i k:Nat}(h:row[i]? = some k):(dG row)[i]? = some (k:Int):=by simp[dG,h]
theorem pM (row:List Nat) (i k:Nat):(dG row).set i (k:Int)=dG (row.set i k):=by simp[dG,List.map_set]
theorem uG (row:List Nat) (m:Nat):(dG row).take m=dG (row.take m):=by simp[dG,List.map_take]
def gh (N:Nat) (row:List Nat) (seats:List Int):Prop:=
 seats.length=N/\∀k,k<N->(∃p:Nat,row[p]? = some k/\seats[k]? = some ((p:Int)+1))\/(k ∉ row/\seats[k]? = some 0)
theorem re {l:List Nat}(h:∀(i j:Nat) (k:Nat),l[i]? = some k->l[j]? = some k->i=j):l.Nodup:=by
 refine List.pairwise_iff_getElem.2 λi j hi hj hij he=>?_
 have:=h i j l[i] (List.getElem?_eq_getElem hi) (by rw[List.getElem?_eq_getElem hj,he])
 omega
theorem dq {l:List Nat}(h:l.Nodup){i j k:Nat}(hi:l[i]? = some k) (hj:l[j]? = some k):i=j:=
 (List.getElem?_inj (List.getElem?_eq_some_iff.1 hi).1 h).1 (hi.trans hj.symm)
theorem iD {l:List Nat}{N:Nat}(hn:l.Nodup) (h:∀k∈l,k<N):l.length<=N:=by
 induction N generalizing l with
 | zero=>
  cases l with
  | nil=>exact Nat.le_refl _
  | cons x l=>exact absurd (h x (by simp)) (Nat.not_lt_zero _)
 | succ N ih=>
  by_cases hm:N∈l
  ·have h1:=ih (l:=l.erase N) (hn.erase N) (λk hk=>by
    have h2:=(List.Nodup.mem_erase_iff hn).1 hk
    have:=h k h2.2
    have:=h2.1
    omega)
   rw[List.length_erase_of_mem hm]at h1
   omega
  ·have h1:=ih hn (λk hk=>by
    have:=h k hk
    have:k≠N:=λe=>hm (e ▸ hk)
    omega)
   omega
section
variable {costs:List Int}
def js (costs:List Int) (a b:Nat):Bool:=decide ((costs.getD a 0)<(costs.getD b 0)\/((costs.getD a 0)=(costs.getD b 0)/\a<b))
end
section
variable {row:List Nat}
def swL (row:List Nat) (i j:Nat):List Nat:=(row.set i (row.getD j 0)).set j (row.getD i 0)
end
section
variable {row:List Nat}
theorem iE (row:List Nat) (i j:Nat):(swL row i j).length=row.length:=by simp[swL]
end
section
variable {row:List Nat}
theorem c8 {row:List Nat}{i j:Nat}(hi:i<row.length) (hj:j<row.length) (x:Nat):(swL row i j)[x]? = if x=i then row[j]? else if x=j then row[i]? else row[x]?:=by
 have e1:row.getD j 0=row[j]:=by simp[List.getD_eq_getElem?_getD,hj]
 have e2:row.getD i 0=row[i]:=by simp[List.getD_eq_getElem?_getD,hi]
 unfold swL
 rw[List.getElem?_set,List.getElem?_set,e1,e2]
 by_cases h1:x=i
 ·subst h1
  by_cases h2:j=x
  ·subst h2;simp[hj]
  ·simp[h2,hi,hj]
 ·by_cases h2:x=j
  ·subst h2
   have:¬x=i:=h1
   simp[h1,hi,hj]
  ·have h3:¬j=x:=λe=>h2 e.symm
   have h4:¬i=x:=λe=>h1 e.symm
   simp[h1,h2,h3,h4]
end
section
variable {h:Nat}{row:List Nat}
theorem jY {row:List Nat}{i j:Nat}(hi:i<row.length) (hj:j<row.length) (k:Nat):k∈swL row i j↔k∈row:=by
 constructor
 ·intro h
  obtain⟨x,hx⟩:=List.getElem?_of_mem h
  rw[c8 hi hj]at hx
  split at hx
  ·exact List.mem_of_getElem? hx
  ·split at hx
   ·exact List.mem_of_getElem? hx
   ·exact List.mem_of_getElem? hx
 ·intro h
  obtain⟨x,hx⟩:=List.getElem?_of_mem h
  by_cases h1:x=i
  ·subst h1
   refine List.mem_of_getElem? (i:=j) ?_
   rw[c8 hi hj]
   by_cases h2:j=x
   ·subst h2;simpa using hx
   ·simpa[h2]using hx
  ·by_cases h2:x=j
   ·subst h2
    exact List.mem_of_getElem? (i:=i) (by rw[c8 hi hj,if_pos rfl];exact hx)
   ·exact List.mem_of_getElem? (i:=x) (by rw[c8 hi hj,if_neg h1,if_neg h2];exact hx)
end
section
variable {row:List Nat}
theorem xq {row:List Nat}{i j:Nat}(hi:i<row.length) (hj:j<row.length) (hn:row.Nodup):(swL row i j).Nodup:=by
 refine re λx y k hx hy=>?_
 rw[c8 hi hj]at hx hy
 have inj:∀{a b:Nat},row[a]? = some k->row[b]? = some k->a=b:=λha hb=>dq hn ha hb
 by_cases x1:x=i
 ·by_cases y1:y=i
  ·omega
  ·rw[if_pos x1]at hx
   rw[if_neg y1]at hy
   by_cases y2:y=j
   ·rw[if_pos y2]at hy
    have:=inj hx hy
    omega
   ·rw[if_neg y2]at hy
    exact absurd (inj hy hx) y2
 ·rw[if_neg x1]at hx
  by_cases x2:x=j
  ·rw[if_pos x2]at hx
   by_cases y1:y=i
   ·rw[if_pos y1]at hy
    have:=inj hx hy
    omega
   ·rw[if_neg y1]at hy
    by_cases y2:y=j
    ·omega
    ·rw[if_neg y2]at hy
     exact absurd (inj hy hx) y1
  ·rw[if_neg x2]at hx
   by_cases y1:y=i
   ·rw[if_pos y1]at hy
    exact absurd (inj hx hy) x2
   ·rw[if_neg y1]at hy
    by_cases y2:y=j
    ·rw[if_pos y2]at hy
     exact absurd (inj hx hy) x1
    ·rw[if_neg y2]at hy
     exact inj hx hy
end
section
variable {h N:Nat}{row:List Nat}{seats:List Int}
theorem zb {N:Nat}{row:List Nat}{seats:List Int}{i j a b:Nat}(h:gh N row seats) (hn:row.Nodup) (hlt:∀k∈row,k<N) (hi:row[i]? = some a) (hj:row[j]? = some b) :
  gh N (swL row i j) ((seats.set b ((i:Int)+1)).set a ((j:Int)+1)):=by
 have li:=(List.getElem?_eq_some_iff.1 hi).1
 have lj:=(List.getElem?_eq_some_iff.1 hj).1
 have la:=hlt a (List.mem_of_getElem? hi)
 have lb:=hlt b (List.mem_of_getElem? hj)
 refine⟨by simp[h.1],λk hk=>?_⟩
 rw[List.getElem?_set,List.getElem?_set]
 simp only[List.length_set,h.1]
 by_cases e1:a=k
 ·subst e1
  refine .inl ⟨j,?_,by simp[la]⟩
  rw[c8 li lj]
  by_cases e2:j=i
  ·subst e2;simp[hi]
  ·simp[e2,hi]
 ·by_cases e2:b=k
  ·subst e2
   refine .inl ⟨i,?_,by simp[e1,lb]⟩
   rw[c8 li lj,if_pos rfl,hj]
  ·simp only[if_neg e1,if_neg e2]
   rcases h.2 k hk with⟨p,h1,h2⟩ | ⟨h1,h2⟩
   ·refine .inl ⟨p,?_,h2⟩
    have p1:p≠i:=λe=>by subst e;rw[hi]at h1;injection h1 with h1;exact e1 h1
    have p2:p≠j:=λe=>by subst e;rw[hj]at h1;injection h1 with h1;exact e2 h1
    rw[c8 li lj,if_neg p1,if_neg p2]
    exact h1
   ·exact .inr ⟨λhm=>h1 ((jY li lj k).1 hm),h2⟩
end
def cOf (costs:List Int) (k:Nat):Int:=costs.getD k 0
def rOf (row:List Nat) (x:Nat):Nat:=row.getD x 0
theorem cj {row:List Nat}{i a:Nat}(h:row[i]? = some a):rOf row i=a:=by simp[rOf,List.getD_eq_getElem?_getD,h]
theorem uH {row:List Nat}{i j:Nat}(hi:i<row.length) (hj:j<row.length):rOf (swL row i j)=sw (rOf row) i j:=by
 funext x
 unfold rOf sw
 rw[List.getD_eq_getElem?_getD,c8 hi hj]
 by_cases h1:x=i
 ·simp[h1,List.getD_eq_getElem?_getD]
 ·by_cases h2:x=j
  ·subst h2
   simp[h1,List.getD_eq_getElem?_getD]
  ·simp[h1,h2,List.getD_eq_getElem?_getD]
theorem pN {costs:List Int}{a b:Nat}(h:js costs a b=true):HLe (cOf costs) a b:=by
 simp[js]at h
 unfold HLe cOf
 simp only[List.getD_eq_getElem?_getD]at h⊢
 omega
theorem sX {costs:List Int}{a b:Nat}(h:js costs a b=false):HLe (cOf costs) b a:=by
 simp[js]at h
 unfold HLe cOf
 simp only[List.getD_eq_getElem?_getD]at h⊢
 omega
structure dw (c:Nat->Int) (r:Nat->Nat) (n k j m:Nat):Prop where
 who:m=k\/(2*k+1<=m/\m<=2*k+2/\m<j/\m<n)
 own:HLe c (r m) (r k)
 kid:∀x,2*k+1<=x->x<j->x<n->HLe c (r m) (r x)
theorem dw.start (c:Nat->Int) (r:Nat->Nat) (n k:Nat):dw c r n k (2*k+1) k:=⟨.inl rfl,HLe.refl _ _,λx h1 h2 _=>by omega⟩
theorem dw.yes {c:Nat->Int}{r:Nat->Nat}{n k j m:Nat}(h:dw c r n k j m) (hj:2*k+1<=j) (hj2:j<=2*k+2) (hn:j<n) (hl:HLe c (r j) (r m)):dw c r n k (j+1) j:=
 ⟨.inr ⟨hj,hj2,by omega,hn⟩,hl.trans h.own,λx h1 h2 h3=>by
  by_cases e:x=j
  ·subst e;exact HLe.refl _ _
  ·exact hl.trans (h.kid x h1 (by omega) h3)⟩
theorem dw.no {c:Nat->Int}{r:Nat->Nat}{n k j m:Nat}(h:dw c r n k j m) (hl:HLe c (r m) (r j)):dw c r n k (j+1) m:=
 ⟨by rcases h.who with h | ⟨a,b,c,d⟩;exact .inl h;exact .inr ⟨a,b,by omega,d⟩,h.own,λx h1 h2 h3=>by
  by_cases e:x=j
  ·subst e;exact hl
  ·exact h.kid x h1 (by omega) h3⟩
def QIs (row:List Nat) (costs:List Int) (q:Nat->Option Nat):Prop:=∀k,q k=if k∈row then some (cOf costs k).toNat else none
section
variable {h:Nat}
theorem rf {costs:List Int}{k:Nat}{c:Int}(hk:k<costs.length):cOf (costs.set k c)=λx=>if x=k then c else cOf costs x:=by
 funext x
 unfold cOf
 rw[List.getD_eq_getElem?_getD,List.getElem?_set]
 by_cases h:k=x
 ·subst h;simp[hk]
 ·have:¬x=k:=λe=>h e.symm
  simp[h,this,List.getD_eq_getElem?_getD]
end
theorem zc {costs:List Int}{k:Nat}{c:Int}(hk:k<costs.length) (x:Nat):cOf (costs.set k c) x=if x=k then c else cOf costs x:=by rw[rf hk]
section
variable {h:Nat}{q:Nat->Option Nat}
theorem QIs.new {row row':List Nat}{costs:List Int}{k:Nat}{c:Int}(h:QIs row costs q) (hk:k<costs.length) (hn:k ∉ row) (hm:∀x,x∈row'↔x∈row\/x=k):QIs row' (costs.set k c) (ia q k c.toNat)/\eV q k c.toNat=true:=by
 have hq:q k=none:=by rw[h k,if_neg hn]
 refine⟨λx=>?_,by simp[eV,hq]⟩
 rw[zc hk]
 unfold ia
 by_cases hx:x=k
 ·subst hx
  rw[if_pos rfl,hq,if_pos ((hm x).2 (.inr rfl)),if_pos rfl]
 ·rw[if_neg hx,if_neg hx,h x]
  by_cases hr:x∈row
  ·rw[if_pos hr,if_pos ((hm x).2 (.inl hr))]
  ·rw[if_neg hr,if_neg (λhh=>((hm x).1 hh).elim hr hx)]
end
section
variable {h:Nat}{q:Nat->Option Nat}
theorem QIs.less {row row':List Nat}{costs:List Int}{k:Nat}{c:Int}(h:QIs row costs q) (hk:k<costs.length) (hn:k∈row) (hm:∀x,x∈row'↔x∈row) (hc0:0<=c) (hc:c<cOf costs k):QIs row' (costs.set k c) (ia q k c.toNat)/\eV q k c.toNat=true:=by
 have hq:q k=some (cOf costs k).toNat:=by rw[h k,if_pos hn]
 refine⟨λx=>?_,by simp[eV,hq];omega⟩
 rw[zc hk]
 unfold ia
 by_cases hx:x=k
 ·subst hx
  rw[if_pos rfl,hq,if_pos ((hm x).2 hn),if_pos rfl]
  simp only[Option.some.injEq]
  omega
 ·rw[if_neg hx,if_neg hx,h x]
  by_cases hr:x∈row
  ·rw[if_pos hr,if_pos ((hm x).2 hr)]
  ·rw[if_neg hr,if_neg (λhh=>hr ((hm x).1 hh))]
end
section
variable {h:Nat}{q:Nat->Option Nat}
theorem QIs.same {row:List Nat}{costs:List Int}{k:Nat}{c:Int}(h:QIs row costs q) (hn:k∈row) (hc0:0<=cOf costs k) (hc:cOf costs k<=c):QIs row costs (ia q k c.toNat)/\eV q k c.toNat=false:=by
 have hq:q k=some (cOf costs k).toNat:=by rw[h k,if_pos hn]
 refine⟨λx=>?_,by simp[eV,hq];omega⟩
 unfold ia
 by_cases hx:x=k
 ·subst hx
  rw[if_pos rfl,hq,if_pos hn]
  simp only[Option.some.injEq]
  omega
 ·rw[if_neg hx]
  exact h x
end
section
variable {h:Nat}
theorem zd (row:List Nat) (k:Nat):rOf (row ++ [k])=λx=>if x=row.length then k else rOf row x:=by
 funext x
 unfold rOf
 rw[List.getD_eq_getElem?_getD,List.getElem?_append]
 by_cases h:x<row.length
 ·have:¬x=row.length:=by omega
  simp[h,this,List.getD_eq_getElem?_getD]
 ·by_cases h2:x=row.length
  ·subst h2;simp
  ·have h3:x - row.length≠0:=by omega
   obtain⟨y,hy⟩:∃y,x - row.length=y+1:=⟨x - row.length - 1,by omega⟩
   simp[h,h2,hy,List.getD_eq_getElem?_getD,List.getElem?_eq_none (show row.length<=x by omega)]
end
section
variable {h N:Nat}
theorem xr {N:Nat}{row:List Nat}{seats:List Int}{k:Nat}(h:gh N row seats) (hk:k<N) (hn:k ∉ row):gh N (row ++ [k]) (seats.set k ((row.length:Int)+1)):=by
 refine⟨by simp[h.1],λx hx=>?_⟩
 rw[List.getElem?_set]
 by_cases e:k=x
 ·subst e
  exact .inl ⟨row.length,by simp,by simp[h.1,hk]⟩
 ·rw[if_neg e]
  rcases h.2 x hx with⟨p,h1,h2⟩ | ⟨h1,h2⟩
  ·exact .inl ⟨p,by rw[List.getElem?_append_left (List.getElem?_eq_some_iff.1 h1).1];exact h1,h2⟩
  ·exact .inr ⟨by simp[h1];exact λe2=>e e2.symm,h2⟩
end
theorem fG.congr {c:Nat->Int}{r r':Nat->Nat}{n i:Nat}(h:fG c r n i) (hr:∀x,x<n->r' x=r x):fG c r' n i:=by
 refine⟨λj h1 h2 h3=>?_,λj h1 h2 h3 h4=>?_⟩
 ·rw[hr j h2,hr ((j - 1) / 2) (by omega)]
  exact h.one j h1 h2 h3
 ·rw[hr j h2,hr ((i - 1) / 2) (by omega)]
  exact h.two j h1 h2 h3 h4
theorem xu {N m k:Nat}{row:List Nat}{seats:List Int}(h:gh N row seats) (hn:row.Nodup) (hl:row.length=m+1) (hk:row[m]? = some k) (hkN:k<N):gh N (row.take m) (seats.set k 0):=by
 refine⟨by simp[h.1],λx hx=>?_⟩
 rw[List.getElem?_set]
 have hnot:k ∉ row.take m:=λhm=>by
  obtain⟨p,hp⟩:=List.getElem?_of_mem hm
  rw[List.getElem?_take]at hp
  split at hp
  ·have:=dq hn hp hk
   omega
  ·cases hp
 by_cases e:k=x
 ·subst e
  exact .inr ⟨hnot,by simp[h.1,hkN]⟩
 ·rw[if_neg e]
  rcases h.2 x hx with⟨p,h1,h2⟩ | ⟨h1,h2⟩
  ·have hp:=(List.getElem?_eq_some_iff.1 h1).1
   have hpm:p<m:=by
    rcases Nat.lt_or_ge p m with g | g
    ·exact g
    ·have:p=m:=by omega
     subst this
     rw[hk]at h1
     injection h1 with h1
     exact absurd h1 e
   exact .inl ⟨p,by rw[List.getElem?_take];simp[hpm,h1],h2⟩
  ·exact .inr ⟨λhm=>h1 (List.mem_of_mem_take hm),h2⟩
theorem Bb {row:List Nat}{m k x:Nat}(hn:row.Nodup) (hl:row.length=m+1) (hk:row[m]? = some k):x∈row.take m↔x∈row/\x≠k:=by
 constructor
 ·intro hm
  refine⟨List.mem_of_mem_take hm,λe=>?_⟩
  subst e
  obtain⟨p,hp⟩:=List.getElem?_of_mem hm
  rw[List.getElem?_take]at hp
  split at hp
  ·have:=dq hn hp hk
   omega
  ·cases hp
 ·rintro⟨h1,h2⟩
  obtain⟨p,hp⟩:=List.getElem?_of_mem h1
  have hpl:=(List.getElem?_eq_some_iff.1 hp).1
  have hpm:p<m:=by
   rcases Nat.lt_or_ge p m with g | g
   ·exact g
   ·have:p=m:=by omega
    subst this
    rw[hk]at hp
    injection hp with hp
    exact absurd hp.symm h2
  exact List.mem_of_getElem? (i:=p) (by rw[List.getElem?_take];simp[hpm,hp])
end
section
open Go Go.RowKit
def dg (a:Int):Int:=if a<0 then 0 else if 1152921504606846976<a then 1152921504606846976 else a
theorem bX {a:Int}(h0:0<=a) (h:a<=1152921504606846976):dg a=a:=by unfold dg;rw[if_neg (by omega),if_neg (by omega)]
theorem fH (a:Int):0<=dg a/\dg a<=1152921504606846976:=by
 unfold dg
 split
 ·omega
 ·split <;>omega
def cM (a b:Int):Int:=dg (dg a+dg b)
theorem xv (a:Int):dg a=min (max a 0) 1152921504606846976:=by
 unfold dg
 split
 ·omega
 ·split <;>omega
theorem ib (a b:Int):cM a b=min (dg a+dg b) 1152921504606846976:=by
 have h1:=fH a
 have h2:=fH b
 rw[cM,xv]
 omega
def CW (l:List Int):Int:=l.foldl cM 0
end
section
open Go Go.RowKit
end
section
open Go Go.RowKit
abbrev Stp:=Int×Int×Int
def em (l:List Stp):List (Nat×Nat):=l.filterMap λs=>if 0<=s.2.1 then none else some (s.1.toNat,s.2.2.toNat)
def gi (l:List Stp):List (Nat×Nat):=l.filterMap λs=>if 0<=s.2.1 then some (s.2.1.toNat,s.2.2.toNat) else none
def eF (steps:Nat->List Stp) (q r:Nat):Option Nat:=((em (steps q)).find? λx=>x.1 == r).map (·.2)
structure iU (n outs M:Nat) (steps:Nat->List Stp):Prop where
 inn:∀q r x,q<n->(r,x)∈em (steps q)->r<n/\x<=M
 out:∀q o y,q<n->(o,y)∈gi (steps q)->o<outs/\y<=M
 one:∀q r x x',q<n->(r,x)∈em (steps q)->(r,x')∈em (steps q)->x=x'
 pos:∀q s,q<n->s∈steps q->0<=s.2.2/\s.2.2<=M/\(s.2.1<0->0<=s.1/\s.1<n)/\s.2.1<outs
theorem rg {steps:Nat->List Stp}{q r x:Nat}(h:eF steps q r=some x):(r,x)∈em (steps q):=by
 unfold eF at h
 cases hf:(em (steps q)).find? (λx=>x.1 == r) with
 | none=>rw[hf]at h;cases h
 | some y=>
  rw[hf]at h
  simp at h
  have h1:=List.mem_of_find?_eq_some hf
  have h2:=List.find?_some hf
  obtain⟨a,b⟩:=y
  simp at h2 h
  subst h2 h
  exact h1
theorem iU.get {n outs M:Nat}{steps:Nat->List Stp}(h:iU n outs M steps){q r x:Nat}(hq:q<n) (hm:(r,x)∈em (steps q)):eF steps q r=some x:=by
 cases hf:(em (steps q)).find? (λx=>x.1 == r) with
 | none=>
  have:=List.find?_eq_none.1 hf _ hm
  simp at this
 | some y=>
  have h1:eF steps q r=some y.2:=by simp[eF,hf]
  rw[h1,h.one q r _ _ hq (rg h1) hm]
def eo (done:Nat->Option Nat) (sum:Nat) (st:List Int×(Nat->Option Nat)) (s:Stp):List Int×(Nat->Option Nat):=
 if 0<=s.2.1 then(st.1.set s.2.1.toNat (min (at_ st.1 s.2.1.toNat) (sum+s.2.2)),st.2)
 else if done s.1.toNat=none then(st.1,ia st.2 s.1.toNat (sum+s.2.2.toNat)) else st
def dh (done:Nat->Option Nat) (sum:Nat) (l:List Stp) (st:List Int×(Nat->Option Nat)):List Int×(Nat->Option Nat):=l.foldl (eo done sum) st
theorem jZ (done:Nat->Option Nat) (sum a:Nat):∀(l:List Stp) (row:List Int) (q:Nat->Option Nat) (par:Nat->Nat),
  (dh done sum l (row,q)).2=(bR done a ((em l).map λx=>(x.1,sum+x.2)) (q,par)).1
 | [],row,q,par=>rfl
 | s :: l,row,q,par=>by
  unfold dh bR
  rw[List.foldl_cons]
  by_cases h:0<=s.2.1
  ·have e1:em (s :: l)=em l:=by simp[em,h]
   rw[e1,eo,if_pos h]
   exact jZ done sum a l _ q par
  ·have e1:em (s :: l)=(s.1.toNat,s.2.2.toNat) :: em l:=by simp[em,h]
   rw[e1,eo,if_neg h,List.map_cons,List.foldl_cons]
   by_cases hd:done s.1.toNat=none
   ·simp only[hd,if_true,bV]
    exact jZ done sum a l row _ _
   ·simp only[hd,if_false,bV]
    exact jZ done sum a l row q par
theorem CX {row:List Int}{i j:Nat}{v:Int}(hi:i<row.length):at_ (row.set i v) j=if i=j then v else at_ row j:=by
 unfold at_
 rw[List.getElem?_set]
 by_cases h:i=j
 ·subst h;simp[hi]
 ·simp[h]
theorem kU (done:Nat->Option Nat) (sum:Nat):∀(l:List Stp) (row:List Int) (q:Nat->Option Nat),(∀s∈l,s.2.1<row.length/\0<=s.2.2)->
  (dh done sum l (row,q)).1.length=row.length/\(∀j,at_ (dh done sum l (row,q)).1 j<=at_ row j)/\
   (∀j y,(j,y)∈gi l->at_ (dh done sum l (row,q)).1 j<=((sum+y:Nat):Int))/\
   (∀j,at_ (dh done sum l (row,q)).1 j=at_ row j\/∃y,(j,y)∈gi l/\at_ (dh done sum l (row,q)).1 j=((sum+y:Nat):Int))
 | [],row,q,h=>⟨rfl,λ_=>Int.le_refl _,(λj y h=>by cases h),λ_=>.inl rfl⟩
 | s :: l,row,q,h=>by
  have hs:=h s (by simp)
  have hl:=λs hs=>h s (List.mem_cons_of_mem _ hs)
  have e0:dh done sum (s :: l) (row,q)=dh done sum l (eo done sum (row,q) s):=rfl
  rw[e0]
  by_cases ho:0<=s.2.1
  ·have e1:gi (s :: l)=(s.2.1.toNat,s.2.2.toNat) :: gi l:=by simp[gi,ho]
   have e2:eo done sum (row,q) s=(row.set s.2.1.toNat (min (at_ row s.2.1.toNat) (sum+s.2.2)),q):=by rw[eo,if_pos ho]
   have hlt:s.2.1.toNat<row.length:=by omega
   rw[e2,e1]
   obtain⟨g1,g2,g3,g4⟩:=kU done sum l (row.set s.2.1.toNat (min (at_ row s.2.1.toNat) (sum+s.2.2))) q (λx hx=>by rw[List.length_set];exact hl x hx)
   have hset:=λj=>CX (j:=j) (v:=min (at_ row s.2.1.toNat) (sum+s.2.2)) hlt
   refine⟨by rw[g1,List.length_set],λj=>?_,λj y hj=>?_,λj=>?_⟩
   ·have:=g2 j
    rw[hset j]at this
    split at this
    ·rename_i hj;subst hj;omega
    ·exact this
   ·rcases List.mem_cons.1 hj with hj | hj
    ·injection hj with h1 h2
     subst h1 h2
     have:=g2 s.2.1.toNat
     rw[hset,if_pos rfl]at this
     omega
    ·exact g3 j y hj
   ·rcases g4 j with h1 | ⟨y,h1,h2⟩
    ·rw[h1,hset j]
     split
     ·rename_i hj
      subst hj
      by_cases hm:at_ row s.2.1.toNat<=sum+s.2.2
      ·left;omega
      ·right;exact⟨s.2.2.toNat,by simp,by omega⟩
     ·exact .inl rfl
    ·exact .inr ⟨y,List.mem_cons_of_mem _ h1,h2⟩
  ·have e1:gi (s :: l)=gi l:=by simp[gi,ho]
   obtain⟨q',e2⟩:∃q',eo done sum (row,q) s=(row,q'):=by
    rw[eo,if_neg ho]
    split
    ·exact⟨_,rfl⟩
    ·exact⟨_,rfl⟩
   rw[e2,e1]
   exact kU done sum l row q' hl
structure ep (outs:Nat) (steps:Nat->List Stp) (done:Nat->Option Nat) (row:List Int):Prop where
 len:row.length=outs
 bd:∀j,j<outs->0<=at_ row j/\at_ row j<=INF
 lo:∀q c j y,done q=some c->(j,y)∈gi (steps q)->at_ row j<=((c+y:Nat):Int)
 hi:∀j,j<outs->at_ row j<INF->∃q c y,done q=some c/\(j,y)∈gi (steps q)/\at_ row j=((c+y:Nat):Int)
theorem ep.start (outs:Nat) (steps:Nat->List Stp):ep outs steps (λ_=>none) (List.replicate outs INF):=
 ⟨by simp,(λj hj=>by simp[at_,hj,INF]),(λq c j y h=>by cases h),(λj hj h=>by simp[at_,hj]at h)⟩
theorem ep.round {n outs M:Nat}{steps:Nat->List Stp}(hf:iU n outs M steps){done q:Nat->Option Nat}{row:List Int}(h:ep outs steps done row){k c:Nat}(hk:k<n) (hd:done k=none) :
  ep outs steps (upd done k (some c)) (dh (upd done k (some c)) c (steps k) (row,q)).1:=by
 obtain⟨g1,g2,g3,g4⟩:=kU (upd done k (some c)) c (steps k) row q λs hs=>by
  have:=hf.pos k s hk hs
  rw[h.len]
  exact⟨this.2.2.2,this.1⟩
 refine⟨by rw[g1,h.len],λj hj=>⟨?_,?_⟩,λq' c' j y hq hy=>?_,λj hj hlt=>?_⟩
 ·rcases g4 j with h1 | ⟨y,-,h1⟩
  ·rw[h1];exact(h.bd j hj).1
  ·rw[h1];omega
 ·exact Int.le_trans (g2 j) (h.bd j hj).2
 ·by_cases e:q' = k
  ·subst e
   simp[upd]at hq
   subst hq
   exact g3 j y hy
  ·simp[upd,e]at hq
   exact Int.le_trans (g2 j) (h.lo q' c' j y hq hy)
 ·rcases g4 j with h1 | ⟨y,h2,h1⟩
  ·rw[h1]at hlt⊢
   obtain⟨q',c',y,h3,h4,h5⟩:=h.hi j hj hlt
   have e:q'≠k:=λe=>by subst e;rw[hd]at h3;cases h3
   exact⟨q',c',y,by simp[upd,e,h3],h4,h5⟩
  ·exact⟨k,c,y,by simp[upd],h2,h1⟩
def pO (outs:Nat) (steps:Nat->List Stp) (st:Nat) (row:List Int):Prop:=
 row.length=outs/\∀j,j<outs->(0<=at_ row j/\at_ row j<=INF)/\(∀q c y,be (eF steps) st q c->(j,y)∈gi (steps q)->at_ row j<=((c+y:Nat):Int))/\
  (at_ row j<INF->∃q c y,be (eF steps) st q c/\(j,y)∈gi (steps q)/\at_ row j=((c+y:Nat):Int))
theorem ep.done {outs:Nat}{steps:Nat->List Stp}{st:Nat}{done q:Nat->Option Nat}{row:List Int}(h:ep outs steps done row) (hd:Dij aM (eF steps) st done q) (hq:∀b,q b=none):pO outs steps st row:=by
 refine⟨h.len,λj hj=>⟨h.bd j hj,λq' c y hg hy=>?_,λhlt=>?_⟩⟩
 ·have L:=hd.ends hq q'
  by_cases hc:c<aM
  ·have hle:=L.least c hg
   cases hdq:done q' with
   | none=>rw[hdq]at hle;simp at hle;omega
   | some c'=>
    rw[hdq]at hle
    simp at hle
    have:=h.lo q' c' j y hdq hy
    omega
  ·have:=(h.bd j hj).2
   unfold INF aM at *
   omega
 ·obtain⟨q',c,y,h1,h2,h3⟩:=h.hi j hj hlt
  exact⟨q',c,y,(hd.fin q' c h1).2.1,h2,h3⟩
def Few (M cnt:Nat) (q:Nat->Option Nat):Prop:=∀b c,q b=some c->c<=M*cnt
theorem Few.round {M cnt:Nat}{done q:Nat->Option Nat}{k c a:Nat}{l:List (Nat×Nat)}{par:Nat->Nat}(h:Few M cnt q) (hk:q k=some c) (hl:∀b y,(b,y)∈l->y<=c+M):Few M (cnt+1) (bR done a l (del q k,par)).1:=by
 intro b c' hb
 have hc:=h k c hk
 rw[Nat.mul_succ]
 rcases dY l _ hb with⟨h1,-⟩ | ⟨-,h2,-⟩
 ·simp only[del]at h1
  by_cases hbk:b=k
  ·simp[hbk]at h1
  ·rw[if_neg hbk]at h1
   have:=h b c' h1
   omega
 ·have:=hl b c' h2
  omega
end
section
open Go Go.RowKit
structure gj (N:ab) (p:List (List Int)) (c:Nat) (L:List Nat) (steps:Nat->List Stp):Prop where
 nodup:∀(i j a:Nat),L[i]? = some a->L[j]? = some a->i=j
 pre:∀(i a:Nat),(N.ins p 1 c)[i]? = some a->L[i]? = some a
 mem:∀a,a∈L->a<N.na/\cel p 1 (N.to a)=c
 inn:∀(i a r x:Nat),L[i]? = some a->((r,x)∈em (steps i)↔∃b,L[r]? = some b/\N.turn a b<INF/\b ∉ N.outs p 1 c/\N.w b<INF/\x=(N.turn a b).toNat+(N.w b).toNat)
 all:∀(i a b:Nat),L[i]? = some a->N.turn a b<INF->b ∉ N.outs p 1 c->N.w b<INF->b∈L
 out:∀(i a o y:Nat),L[i]? = some a->((o,y)∈gi (steps i)↔∃b,(N.outs p 1 c)[o]? = some b/\N.turn a b<INF/\y=(N.turn a b).toNat)
section
variable {N:ab}{p:List (List Int)}{c:Nat}{L:List Nat}{steps:Nat->List Stp}{M:Nat}
theorem gj.there (h:gj N p c L steps){i a:Nat}(hi:L[i]? = some a){q x:Nat}(hg:be (eF steps) i q x):∃d,L[q]? = some d/\an N.e (N.win p 1 c) a d x:=by
 induction hg with
 | here=>exact⟨a,hi,.here⟩
 | @on q r x y hg he ih=>
  obtain⟨d,h1,h2⟩:=ih
  obtain⟨b,g1,g2,g3,g4,rfl⟩:=(h.inn q d r y h1).1 (rg he)
  refine⟨b,g1,h2.on (ab.e_some.2 ⟨g2,g4,rfl⟩) ?_⟩
  have hb:=ab.turn_in g2
  have hd:=(h.mem d (List.mem_of_getElem? h1)).2
  have hf:cel p 1 (N.fr b)=c:=by rw[<-hb.2.2];exact hd
  exact⟨hf,(h.mem b (List.mem_of_getElem? g1)).2⟩
theorem gj.back (h:gj N p c L steps){i a:Nat}(hi:L[i]? = some a)
  (get:∀(q r x:Nat),(∃d,L[q]? = some d)->(r,x)∈em (steps q)->eF steps q r=some x){d x:Nat}(hw:an N.e (N.win p 1 c) a d x):∃q,L[q]? = some d/\be (eF steps) i q x:=by
 induction hw with
 | here=>exact⟨i,hi,.here⟩
 | @on d b x y hw he hp ih=>
  obtain⟨q,h1,h2⟩:=ih
  obtain⟨g1,g2,rfl⟩:=ab.e_some.1 he
  have hno:b ∉ N.outs p 1 c:=λhb=>(ab.mem_outs.1 hb).2.2 hp.2
  obtain⟨r,hr⟩:=List.getElem?_of_mem (h.all q d b h1 g1 hno g2)
  exact⟨r,hr,h2.on (get q r _ ⟨d,h1⟩ ((h.inn q d r _ h1).2 ⟨b,hr,g1,hno,g2,rfl⟩))⟩
theorem gj.row (h:gj N p c L steps){outs:Nat}(hF:iU L.length outs M steps){i a:Nat}(ha:(N.ins p 1 c)[i]? = some a) (ho:(N.outs p 1 c).length=outs){row:List Int}(hr:pO outs steps i row){j b:Nat}(hb:(N.outs p 1 c)[j]? = some b) :
  fE N (N.win p 1 c) a b (at_ row j):=by
 have hj:j<outs:=by rw[<-ho];exact(List.getElem?_eq_some_iff.1 hb).1
 obtain⟨r1,r2,r3⟩:=hr.2 j hj
 have hi:=h.pre i a ha
 refine⟨r1,λd x y hw hy=>?_,λhlt=>?_⟩
 ·obtain⟨q,h1,h2⟩:=h.back hi (λq r x hd hm=>hF.get (by obtain⟨d,hd⟩:=hd;exact(List.getElem?_eq_some_iff.1 hd).1) hm) hw
  obtain⟨g1,rfl⟩:=ab.tr_some.1 hy
  exact r2 q x _ h2 ((h.out q d j _ h1).2 ⟨b,hb,g1,rfl⟩)
 ·obtain⟨q,x,y,h1,h2,h3⟩:=r3 hlt
  obtain⟨d,h4,h5⟩:=h.there hi h1
  obtain⟨b',g1,g2,rfl⟩:=(h.out q d j y h4).1 h2
  rw[hb]at g1
  injection g1 with g1
  subst g1
  exact⟨d,x,_,h5,ab.tr_some.2 ⟨g2,rfl⟩,h3⟩
end
end
section
open Go Go.RowKit
def ab.kidIn (N:ab) (p:List (List Int)) (k c a:Nat):Prop:=a<N.na/\cel p k (N.to a)=c/\N.inA p (k - 1) (cel p (k - 1) (N.to a)) a
structure gk (N:ab) (p:List (List Int)) (k c:Nat) (ent:Nat->Nat->Nat->Int) (L:List Nat) (starts:List Nat) (steps:Nat->List Stp):Prop where
 mem:∀a,a∈L↔N.kidIn p k c a
 start:∀(i a:Nat),(N.ins p k c)[i]? = some a->∃q:Nat,starts[i]? = some q/\L[q]? = some a
 inn:∀(i a r x:Nat),L[i]? = some a->((r,x)∈em (steps i)↔∃m,L[r]? = some m/\m∈N.outs p (k - 1) (cel p (k - 1) (N.to a))/\m ∉ N.outs p k c/\ent (k - 1) a m<INF/\N.w m<INF/\x=(ent (k - 1) a m).toNat+(N.w m).toNat)
 out:∀(i a o y:Nat),L[i]? = some a->((o,y)∈gi (steps i)↔∃b,(N.outs p k c)[o]? = some b/\b∈N.outs p (k - 1) (cel p (k - 1) (N.to a))/\ent (k - 1) a b<INF/\y=(ent (k - 1) a b).toNat)
open Classical in
noncomputable def kEf (N:ab) (p:List (List Int)) (k c:Nat) (ent:Nat->Nat->Nat->Int) (a m:Nat):Option Nat:=
 if N.kidIn p k c a/\m∈N.outs p (k - 1) (cel p (k - 1) (N.to a))/\m ∉ N.outs p k c/\ent (k - 1) a m<INF/\N.w m<INF then some ((ent (k - 1) a m).toNat+(N.w m).toNat) else none
open Classical in
noncomputable def kOf (N:ab) (p:List (List Int)) (k c:Nat) (ent:Nat->Nat->Nat->Int) (a b:Nat):Option Nat:=
 if N.kidIn p k c a/\b∈N.outs p k c/\b∈N.outs p (k - 1) (cel p (k - 1) (N.to a))/\ent (k - 1) a b<INF then some (ent (k - 1) a b).toNat else none
section
variable {N:ab}{p:List (List Int)}{k c:Nat}{ent:Nat->Nat->Nat->Int}
theorem dH {a m x:Nat}:kEf N p k c ent a m=some x↔N.kidIn p k c a/\m∈N.outs p (k - 1) (cel p (k - 1) (N.to a))/\m ∉ N.outs p k c/\ent (k - 1) a m<INF/\N.w m<INF/\x=(ent (k - 1) a m).toNat+(N.w m).toNat:=by
 unfold kEf
 split
 ·rename_i h
  simp only[Option.some.injEq]
  exact⟨λe=>⟨h.1,h.2.1,h.2.2.1,h.2.2.2.1,h.2.2.2.2,e.symm⟩,λe=>e.2.2.2.2.2.symm⟩
 ·rename_i h
  exact⟨λe=>by(cases e),λe=>absurd ⟨e.1,e.2.1,e.2.2.1,e.2.2.2.1,e.2.2.2.2.1⟩ h⟩
theorem dI {a b x:Nat}:kOf N p k c ent a b=some x↔N.kidIn p k c a/\b∈N.outs p k c/\b∈N.outs p (k - 1) (cel p (k - 1) (N.to a))/\ent (k - 1) a b<INF/\x=(ent (k - 1) a b).toNat:=by
 unfold kOf
 split
 ·rename_i h
  simp only[Option.some.injEq]
  exact⟨λe=>⟨h.1,h.2.1,h.2.2.1,h.2.2.2,e.symm⟩,λe=>e.2.2.2.2.symm⟩
 ·rename_i h
  exact⟨λe=>by(cases e),λe=>absurd ⟨e.1,e.2.1,e.2.2.1,e.2.2.2.1⟩ h⟩
def j0 (N:ab) (p:List (List Int)) (k c:Nat) (ent:Nat->Nat->Nat->Int):Prop:=
 ∀a b,N.kidIn p k c a->b∈N.outs p (k - 1) (cel p (k - 1) (N.to a))->fE N (N.win p (k - 1) (cel p (k - 1) (N.to a))) a b (ent (k - 1) a b)
theorem sY (hok:N.Ok) (hp:ax N.nv p) (hk:2<=k) (hkl:k<=p.length) (he:j0 N p k c ent):Kids aM N.e N.tr N.fr N.to (cel p (k - 1)) (N.win p k c) (λa=>cel p k (N.to a)=c) (kEf N p k c ent) (kOf N p k c ent):=by
 have up:∀{u v:Nat},u<N.nv->v<N.nv->cel p (k - 1) u=cel p (k - 1) v->cel p k u=cel p k v:=λhu hv h=>bW hp (by omega) (by omega) hkl hu hv h
 have ft:∀{a:Nat},a<N.na->N.fr a<N.nv/\N.to a<N.nv:=λha=>⟨(ab.fr_lt hok ha).1,(ab.to_lt hok ha).1⟩
 have ein:∀{d b x:Nat},N.e d b=some x->d<N.na/\b<N.na:=λh=>⟨(ab.turn_in (ab.e_some.1 h).1).1,(ab.turn_in (ab.e_some.1 h).1).2.1⟩
 have kidw:∀{a:Nat},N.kidIn p k c a->∀{d x:Nat},an N.e (N.win p (k - 1) (cel p (k - 1) (N.to a))) a d x->an N.e (iS N.fr N.to (cel p (k - 1)) (N.win p k c) a) a d x:=fun {a} ha {d x} hw=>by
  induction hw with
  | here=>exact .here
  | @on d b x y hw he' hwin ih=>
   refine ih.on he' ⟨⟨?_,?_⟩,hwin.1,hwin.2⟩
   ·rw[up (ft (ein he').2).1 (ft ha.1).2 hwin.1];exact ha.2.1
   ·rw[up (ft (ein he').2).2 (ft ha.1).2 hwin.2];exact ha.2.1
 have start:∀{a d x b y:Nat},an N.e (iS N.fr N.to (cel p (k - 1)) (N.win p k c) a) a d x->(N.turn d b<INF)->a<N.na:=fun {a d x b y} hw ht=>by
  rcases hw.start with rfl | ⟨b',x',hx⟩
  ·exact(ab.turn_in ht).1
  ·exact(ein hx).1
 have toC:∀{a d x b:Nat},a<N.na->an N.e (iS N.fr N.to (cel p (k - 1)) (N.win p k c) a) a d x->N.turn d b<INF->cel p (k - 1) (N.fr b)=cel p (k - 1) (N.to a):=fun {a d x b} ha hw ht=>by
  have h1:=(ab.turn_in ht).2.2
  rw[<-h1]
  rcases hw.mem with rfl | hm
  ·rfl
  ·exact hm.2.2
 refine⟨λa b x h=>ab.e_ends h,λa m x h=>?_,λa b x h=>?_,λa d x m y hin hw hy hPC hf ht hI=>?_,λm h=>h.2,λa d x b y hC hin hw hy hb hI=>?_⟩
 ·obtain⟨h1,h2,h3,h4,h5,rfl⟩:=dH.1 h
  obtain⟨d,x,y,g1,g2,g3⟩:=(he a m h1 h2).way h4
  obtain⟨g4,rfl⟩:=ab.tr_some.1 g2
  have hm:=ab.mem_outs.1 h2
  have hfm:cel p k (N.fr m)=c:=by rw[up (ft hm.1).1 (ft h1.1).2 hm.2.1];exact h1.2.1
  have htm:cel p k (N.to m)=c:=by
   by_cases hc:cel p k (N.to m)=c
   ·exact hc
   ·exact absurd (ab.mem_outs.2 ⟨hm.1,hfm,hc⟩) h3
  exact⟨d,x,_,kidw h1 g1,ab.e_some.2 ⟨g4,h5,rfl⟩,⟨hfm,htm⟩,by omega⟩
 ·obtain⟨h1,h2,h3,h4,rfl⟩:=dI.1 h
  obtain⟨d,x,y,g1,g2,g3⟩:=(he a b h1 h3).way h4
  exact⟨d,x,y,kidw h1 g1,g2,by omega⟩
 ·obtain⟨k1,k2,rfl⟩:=ab.e_some.1 hy
  have ha:=start (y:=0) hw k1
  have hm:=(ab.turn_in k1).2.1
  have hka:N.kidIn p k c a:=⟨ha,by rw[<-up (ft hm).1 (ft ha).2 hf];exact hPC.1,rfl,hin⟩
  have hmo:m∈N.outs p (k - 1) (cel p (k - 1) (N.to a)):=ab.mem_outs.2 ⟨hm,hf,ht⟩
  have T:=he a m hka hmo
  have h5:=T.least d x _ (hw.mono λd hd=>⟨hd.2.1,hd.2.2⟩) (ab.tr_some.2 ⟨k1,rfl⟩)
  have h6:=T.bd
  refine⟨_,dH.2 ⟨hka,hmo,λho=>(ab.mem_outs.1 ho).2.2 hPC.2,?_,k2,rfl⟩,?_⟩
  ·unfold INF aM at *
   omega
  ·omega
 ·obtain⟨k1,rfl⟩:=ab.tr_some.1 hy
  have ha:=start (y:=0) hw k1
  have hbn:=(ab.turn_in k1).2.1
  have hfb:=toC ha hw k1
  have hka:N.kidIn p k c a:=⟨ha,hC,rfl,hin⟩
  have hfc:cel p k (N.fr b)=c:=by rw[up (ft hbn).1 (ft ha).2 hfb];exact hC
  have htc:cel p k (N.to b)≠c:=λh=>hb ⟨hfc,h⟩
  have hbo:b∈N.outs p (k - 1) (cel p (k - 1) (N.to a)):=ab.mem_outs.2 ⟨hbn,hfb,λh=>htc (by rw[up (ft hbn).2 (ft ha).2 h];exact hC)⟩
  have T:=he a b hka hbo
  have h5:=T.least d x _ (hw.mono λd hd=>⟨hd.2.1,hd.2.2⟩) (ab.tr_some.2 ⟨k1,rfl⟩)
  have h6:=T.bd
  refine⟨_,dI.2 ⟨hka,ab.mem_outs.2 ⟨hbn,hfc,htc⟩,hbo,?_,rfl⟩,?_⟩
  ·unfold INF aM at *
   omega
  ·omega
variable {L starts:List Nat}{steps:Nat->List Stp}{M outs:Nat}
theorem gk.there (h:gk N p k c ent L starts steps){i a:Nat}(hi:L[i]? = some a){q x:Nat}(hg:be (eF steps) i q x):∃d,L[q]? = some d/\be (kEf N p k c ent) a d x:=by
 induction hg with
 | here=>exact⟨a,hi,.here⟩
 | @on q r x y hg he ih=>
  obtain⟨d,h1,h2⟩:=ih
  obtain⟨m,g1,g2,g3,g4,g5,rfl⟩:=(h.inn q d r y h1).1 (rg he)
  exact⟨m,g1,h2.on (dH.2 ⟨(h.mem d).1 (List.mem_of_getElem? h1),g2,g3,g4,g5,rfl⟩)⟩
theorem gk.back (h:gk N p k c ent L starts steps) (hF:iU L.length outs M steps) (hin:∀a m,N.kidIn p k c a->m∈N.outs p (k - 1) (cel p (k - 1) (N.to a))->m ∉ N.outs p k c->N.kidIn p k c m){i a:Nat}(hi:L[i]? = some a){d x:Nat}(hw:be (kEf N p k c ent) a d x) :
  ∃q,L[q]? = some d/\be (eF steps) i q x:=by
 induction hw with
 | here=>exact⟨i,hi,.here⟩
 | @on d m x y hw he ih=>
  obtain⟨q,h1,h2⟩:=ih
  obtain⟨g1,g2,g3,g4,g5,rfl⟩:=dH.1 he
  obtain⟨r,hr⟩:=List.getElem?_of_mem ((h.mem m).2 (hin d m g1 g2 g3))
  exact⟨r,hr,h2.on (hF.get (List.getElem?_eq_some_iff.1 h1).1 ((h.inn q d r _ h1).2 ⟨m,hr,g2,g3,g4,g5,rfl⟩))⟩
theorem gk.row (hok:N.Ok) (hp:ax N.nv p) (hk:2<=k) (hkl:k<=p.length) (he:j0 N p k c ent) (h:gk N p k c ent L starts steps) (hF:iU L.length outs M steps){i q0 a:Nat}(ha:(N.ins p k c)[i]? = some a) (hq0:starts[i]? = some q0)
  (ho:(N.outs p k c).length=outs){row:List Int}(hr:pO outs steps q0 row){j b:Nat}(hb:(N.outs p k c)[j]? = some b):fE N (N.win p k c) a b (at_ row j):=by
 have hj:j<outs:=by rw[<-ho];exact(List.getElem?_eq_some_iff.1 hb).1
 obtain⟨r1,r2,r3⟩:=hr.2 j hj
 obtain⟨q',s1,s2⟩:=h.start i a ha
 rw[hq0]at s1
 injection s1 with s1
 subst s1
 have hka:=(h.mem a).1 (List.mem_of_getElem? s2)
 have hbo:=ab.mem_outs.1 (List.mem_of_getElem? hb)
 have hin:∀a m,N.kidIn p k c a->m∈N.outs p (k - 1) (cel p (k - 1) (N.to a))->m ∉ N.outs p k c->N.kidIn p k c m:=λa m h1 h2 h3=>by
  have hm:=ab.mem_outs.1 h2
  have hfm:cel p k (N.fr m)=c:=by rw[bW hp (l:=k - 1) (by omega) (by omega) hkl (ab.fr_lt hok hm.1).1 (ab.to_lt hok h1.1).1 hm.2.1];exact h1.2.1
  refine⟨hm.1,?_,rfl,λe=>hm.2.2 (by rw[<-e];exact hm.2.1)⟩
  by_cases hc:cel p k (N.to m)=c
  ·exact hc
  ·exact absurd (ab.mem_outs.2 ⟨hm.1,hfm,hc⟩) h3
 have KL:=sY hok hp hk hkl he
 have hlaw:=KL.law (a:=a) (b:=b) (v:=(at_ row j).toNat) hka.2.1 hka.2.2.2 (λh=>hbo.2.2 h.2) (by unfold INF aM at *;omega) (λd x y hg hy=>?_) (λhlt=>?_)
 ·refine⟨r1,λd x y hw hy=>?_,λhlt=>?_⟩
  ·have:=hlaw.1 d x y hw hy
   omega
  ·obtain⟨d,x,y,g1,g2,g3⟩:=hlaw.2 (by unfold INF aM at *;omega)
   exact⟨d,x,y,g1,g2,by omega⟩
 ·obtain⟨g1,g2,g3,g4,rfl⟩:=dI.1 hy
  obtain⟨q,h1,h2⟩:=h.back hF hin s2 hg
  have:=r2 q x _ h2 ((h.out q d j _ h1).2 ⟨b,hb,g3,g4,rfl⟩)
  omega
 ·obtain⟨q,x,y,h1,h2,h3⟩:=r3 (by unfold INF aM at *;omega)
  obtain⟨d,h4,h5⟩:=h.there s2 h1
  obtain⟨b',g1,g2,g3,rfl⟩:=(h.out q d j y h4).1 h2
  rw[hb]at g1
  injection g1 with g1
  subst g1
  exact⟨d,x,_,h5,dI.2 ⟨(h.mem d).1 (List.mem_of_getElem? h4),ab.mem_outs.2 hbo,g2,g3,rfl⟩,by omega⟩
end
end
section
open Go Go.RowKit
section
variable {e:Nat->Nat->Option Nat}{P:Nat->Prop}{a b d t c x:Nat}
theorem an.pre (he:e a b=some x) (hb:P b) (h:an e P b t c):an e P a t (x+c):=by
 induction h with
 | here=>simpa using an.on (.here:an e P a a 0) he hb
 | on _ he' hp ih=>rw[<-Nat.add_assoc];exact .on ih he' hp
theorem an.first (h:an e P a t c):(t=a/\c=0)\/∃b x c',e a b=some x/\P b/\an e P b t c'/\c=x+c':=by
 induction h with
 | here=>exact .inl ⟨rfl,rfl⟩
 | @on b' d' c' y hw he hp ih=>
  rcases ih with⟨rfl,rfl⟩ | ⟨b,x,c1,h1,h2,h3,rfl⟩
  ·exact .inr ⟨d',y,0,he,hp,.here,by omega⟩
  ·exact .inr ⟨b,x,c1+y,h1,h2,.on h3 he hp,by omega⟩
theorem an.last (h:an e P a t c):∃c',an e (λv=>P v/\v≠a) a t c'/\c'<=c:=by
 induction h with
 | here=>exact⟨0,.here,Nat.le_refl _⟩
 | @on b' d' c' y hw he hp ih=>
  by_cases h0:d' = a
  ·subst h0;exact⟨0,.here,Nat.zero_le _⟩
  ·obtain⟨c1,h1,h2⟩:=ih
   exact⟨c1+y,.on h1 he ⟨hp,h0⟩,by omega⟩
theorem an.short {M:Nat}(hM:∀a b x,e a b=some x->x<=M):∀(k:Nat) (L:List Nat),L.length<=k->∀{a t c:Nat},an e (λv=>v∈L) a t c->∃c',an e (λv=>v∈L) a t c'/\c'<=c/\c'<=M*k
 | 0,L,hL,a,t,c,h=>by
  rcases h.first with⟨rfl,rfl⟩ | ⟨b,x,c',h1,h2,h3,rfl⟩
  ·exact⟨0,.here,Nat.le_refl _,Nat.zero_le _⟩
  ·have:L = []:=List.eq_nil_of_length_eq_zero (by omega)
   subst this
   cases h2
 | k+1,L,hL,a,t,c,h=>by
  rcases h.first with⟨rfl,rfl⟩ | ⟨b,x,c',h1,h2,h3,rfl⟩
  ·exact⟨0,.here,Nat.le_refl _,Nat.zero_le _⟩
  ·obtain⟨c1,g1,g2⟩:=h3.last
   have hlt:(L.filter λv=>decide (v≠b)).length<L.length:=List.length_filter_lt_length_iff_exists.2 ⟨b,h2,by simp⟩
   obtain⟨c2,g3,g4,g5⟩:=an.short hM k (L.filter λv=>decide (v≠b)) (by omega) (g1.mono (Q:=λv=>v∈L.filter λv=>decide (v≠b)) λv hv=>by simp;exact hv)
   have hx:=hM a b x h1
   refine⟨x+c2,an.pre h1 h2 (g3.mono λv hv=>?_),by omega,?_⟩
   ·simp at hv;exact hv.1
   ·rw[Nat.mul_succ];omega
end
theorem fE.top {N:ab}(hok:N.Ok){P:Nat->Prop}{a b:Nat}{v:Int}(h:fE N P a b v) (hv:v<INF):v<=4294967296*((N.na:Int)+1):=by
 obtain⟨d,c,y,h1,h2,h3⟩:=h.way hv
 have he:∀a b x,N.e a b=some x->x<=4294967296:=λa b x hx=>by
  obtain⟨g1,g2,rfl⟩:=ab.e_some.1 hx
  have t1:=ab.turn_bd hok a b
  have t2:=ab.w_bd hok b
  unfold INF at *
  omega
 classical
 have hP:an N.e (λv=>v∈(List.range N.na).filter λv=>decide (P v)) a d c:=by
  clear h2 h3
  induction h1 with
  | here=>exact .here
  | on _ hx hp ih=>exact .on ih hx (by simp only[List.mem_filter,List.mem_range,decide_eq_true_eq];exact⟨(ab.turn_in (ab.e_some.1 hx).1).2.1,hp⟩)
 obtain⟨c',g1,g2,g3⟩:=an.short he N.na _ (Nat.le_trans (List.length_filter_le _ _) (by simp)) hP
 have g4:=h.least d c' y (g1.mono λv hv=>by simp only[List.mem_filter,List.mem_range,decide_eq_true_eq]at hv;exact hv.2) h2
 obtain⟨t1,rfl⟩:=ab.tr_some.1 h2
 have t2:=ab.turn_bd hok d b
 have g5:(c':Int)<=4294967296*(N.na:Int):=by
  have:=g3
  omega
 unfold INF at *
 omega
end
section
open Go Go.RowKit
def ab.aIn (N:ab) (outs:List Nat) (a b:Nat):Prop:=N.turn a b<INF/\b ∉ outs/\N.w b<INF
def ab.aStep (N:ab) (outs L:List Nat) (a b:Nat):Option Stp:=
 if INF<=N.turn a b then none else if b∈outs then some (0,((outs.idxOf b:Nat):Int),N.turn a b) else if INF<=N.w b then none else some (((L.idxOf b:Nat):Int),-1,N.turn a b+N.w b)
def ab.aRow (N:ab) (outs L:List Nat) (a:Nat) (bs:List Nat):List Stp:=bs.filterMap (N.aStep outs L a)
theorem j5 {α β:Type}{f g:α->Option β}:∀{l:List α},(∀x∈l,f x=g x)->l.filterMap f=l.filterMap g
 | [],_=>rfl
 | x :: l,h=>by
  rw[List.filterMap_cons,List.filterMap_cons,h x (by simp),j5 λy hy=>h y (List.mem_cons_of_mem _ hy)]
section
variable {N:ab}{p:List (List Int)}{c:Nat}{outs L M:List Nat}{a b:Nat}
theorem xw (h:N.aIn outs a b->b∈L):N.aStep outs (L ++ M) a b=N.aStep outs L a b:=by
 unfold ab.aStep
 by_cases h1:INF<=N.turn a b
 ·rw[if_pos h1,if_pos h1]
 ·rw[if_neg h1,if_neg h1]
  by_cases h2:b∈outs
  ·rw[if_pos h2,if_pos h2]
  ·rw[if_neg h2,if_neg h2]
   by_cases h3:INF<=N.w b
   ·rw[if_pos h3,if_pos h3]
   ·rw[if_neg h3,if_neg h3,List.idxOf_append,if_pos (h ⟨Int.not_le.1 h1,h2,Int.not_le.1 h3⟩)]
theorem sZ {bs:List Nat}(h:∀b∈bs,N.aIn outs a b->b∈L):N.aRow outs (L ++ M) a bs=N.aRow outs L a bs:=
 j5 λb hb=>xw (h b hb)
theorem pP {bs:List Nat}{k:Nat}(hk:bs[k]? = some b):N.aRow outs L a (bs.take (k+1))=N.aRow outs L a (bs.take k) ++ (N.aStep outs L a b).toList:=by
 unfold ab.aRow
 rw[List.take_add_one,hk,List.filterMap_append]
 cases h:N.aStep outs L a b <;>simp[List.filterMap_cons,h]
theorem kV {N:ab}(hok:N.Ok){a b:Nat}(h:N.turn a b<INF):b∈N.from_ (N.to a):=by
 obtain⟨h1,h2,h3⟩:=ab.turn_in h
 exact(ab.mem_from hok).2 ⟨h2,h3.symm⟩
structure gm (N:ab) (p:List (List Int)) (c:Nat) (L:List Nat) (i:Nat) (S:List (List Stp)):Prop where
 pre:∃M,L=N.ins p 1 c ++ M
 nodup:L.Nodup
 mem:∀a,a∈L->a<N.na/\cel p 1 (N.to a)=c
 le:i<=L.length
 rows:S.length=i/\∀j a,j<i->L[j]? = some a->S[j]? = some (N.aRow (N.outs p 1 c) L a (N.from_ (N.to a)))
 closed:∀j a b,j<i->L[j]? = some a->N.aIn (N.outs p 1 c) a b->b∈L
variable {i:Nat}{S:List (List Stp)}
theorem gm.start (N:ab) (p:List (List Int)) (c:Nat):gm N p c (N.ins p 1 c) 0 []:=
 ⟨⟨[],by simp⟩,List.Pairwise.imp (λh=>Nat.ne_of_lt h) (aV _ _),λa ha=>⟨(ab.mem_ins.1 ha).1,(ab.mem_ins.1 ha).2.1⟩,Nat.zero_le _,⟨rfl,λj a h=>absurd h (Nat.not_lt_zero _)⟩,λj a b h=>absurd h (Nat.not_lt_zero _)⟩
theorem gm.len (h:gm N p c L i S):L.length<=N.na:=iD h.nodup λa ha=>(h.mem a ha).1
theorem gm.one (h:gm N p c L i S){r q:Nat}(h1:L[r]? = some a) (h2:L[q]? = some a):r=q:=dq h.nodup h1 h2
theorem gm.idx (h:gm N p c L i S){r:Nat}(h1:L[r]? = some b):L.idxOf b=r:=h.one (aN (List.mem_of_getElem? h1)) h1
theorem gm.add (h:gm N p c L i S) (hok:N.Ok){r:Nat}(ha:L[r]? = some a) (hb:N.aIn (N.outs p 1 c) a b) (hn:b ∉ L):gm N p c (L ++ [b]) i S:=by
 obtain⟨M,hM⟩:=h.pre
 obtain⟨t1,t2,t3⟩:=ab.turn_in hb.1
 have hca:=(h.mem a (List.mem_of_getElem? ha)).2
 have hcb:cel p 1 (N.to b)=c:=by
  by_cases e:cel p 1 (N.to b)=c
  ·exact e
  ·exact absurd (ab.mem_outs.2 ⟨t2,by rw[<-t3];exact hca,e⟩) hb.2.1
 have hlt:∀{j:Nat}{y:Nat},j<i->(L ++ [b])[j]? = some y->L[j]? = some y:=fun {j y} hj hy=>by
  have:=h.le
  rwa [List.getElem?_append_left (by omega)]at hy
 refine⟨⟨M ++ [b],by rw[hM,List.append_assoc]⟩,?_,λy hy=>?_,by have:=h.le;simp;omega,⟨h.rows.1,λj y hj hy=>?_⟩,λj y z hj hy hz=>?_⟩
 ·refine List.nodup_append.2 ⟨h.nodup,by simp,λy hy z hz e=>?_⟩
  simp at hz
  subst hz
  subst e
  exact hn hy
 ·rcases List.mem_append.1 hy with hy | hy
  ·exact h.mem y hy
  ·simp at hy;subst hy;exact⟨t2,hcb⟩
 ·have hy':=hlt hj hy
  rw[sZ λz _ hz=>h.closed j y z hj hy' hz]
  exact h.rows.2 j y hj hy'
 ·exact List.mem_append_left _ (h.closed j y z hj (hlt hj hy) hz)
theorem gm.next (h:gm N p c L i S) (hok:N.Ok) (ha:L[i]? = some a) (hc:∀b∈N.from_ (N.to a),N.aIn (N.outs p 1 c) a b->b∈L):gm N p c L (i+1) (S ++ [N.aRow (N.outs p 1 c) L a (N.from_ (N.to a))]):=by
 have hi:=(List.getElem?_eq_some_iff.1 ha).1
 refine⟨h.pre,h.nodup,h.mem,hi,⟨by simp[h.rows.1],λj y hj hy=>?_⟩,λj y z hj hy hz=>?_⟩
 ·by_cases e:j=i
  ·subst e
   rw[ha]at hy
   injection hy with hy
   subst hy
   rw[List.getElem?_append_right (by rw[h.rows.1];exact Nat.le_refl _),h.rows.1,Nat.sub_self]
   rfl
  ·rw[List.getElem?_append_left (by rw[h.rows.1];omega)]
   exact h.rows.2 j y (by omega) hy
 ·by_cases e:j=i
  ·subst e
   rw[ha]at hy
   injection hy with hy
   subst hy
   exact hc z (kV hok hz.1) hz
  ·exact h.closed j y z (by omega) hy hz
def ck (S:List (List Stp)) (q:Nat):List Stp:=(S[q]?).getD []
theorem go {s:Stp}(h:N.aStep outs L a b=some s):N.turn a b<INF/\((b∈outs/\s=(0,((outs.idxOf b:Nat):Int),N.turn a b))\/(b ∉ outs/\N.w b<INF/\s=(((L.idxOf b:Nat):Int),-1,N.turn a b+N.w b))):=by
 unfold ab.aStep at h
 by_cases h1:INF<=N.turn a b
 ·rw[if_pos h1]at h;cases h
 ·rw[if_neg h1]at h
  refine⟨Int.not_le.1 h1,?_⟩
  by_cases h2:b∈outs
  ·rw[if_pos h2]at h;injection h with h;exact .inl ⟨h2,h.symm⟩
  ·rw[if_neg h2]at h
   by_cases h3:INF<=N.w b
   ·rw[if_pos h3]at h;cases h
   ·rw[if_neg h3]at h;injection h with h;exact .inr ⟨h2,Int.not_le.1 h3,h.symm⟩
theorem nG (h:N.aIn outs a b):N.aStep outs L a b=some (((L.idxOf b:Nat):Int),-1,N.turn a b+N.w b):=by
 unfold ab.aStep
 rw[if_neg (Int.not_le.2 h.1),if_neg h.2.1,if_neg (Int.not_le.2 h.2.2)]
theorem pQ (h1:N.turn a b<INF) (h2:b∈outs):N.aStep outs L a b=some (0,((outs.idxOf b:Nat):Int),N.turn a b):=by
 unfold ab.aStep
 rw[if_neg (Int.not_le.2 h1),if_pos h2]
theorem ta {l:List Stp}{r x:Nat}:(r,x)∈em l↔∃s∈l,s.2.1<0/\r=s.1.toNat/\x=s.2.2.toNat:=by
 unfold em
 rw[List.mem_filterMap]
 constructor
 ·rintro⟨s,hs,he⟩
  by_cases h0:0<=s.2.1
  ·rw[if_pos h0]at he;cases he
  ·rw[if_neg h0]at he
   injection he with he
   injection he with e1 e2
   exact⟨s,hs,by omega,e1.symm,e2.symm⟩
 ·rintro⟨s,hs,h0,rfl,rfl⟩
  exact⟨s,hs,by rw[if_neg (by omega)]⟩
theorem tc {l:List Stp}{o y:Nat}:(o,y)∈gi l↔∃s∈l,0<=s.2.1/\o=s.2.1.toNat/\y=s.2.2.toNat:=by
 unfold gi
 rw[List.mem_filterMap]
 constructor
 ·rintro⟨s,hs,he⟩
  by_cases h0:0<=s.2.1
  ·rw[if_pos h0]at he
   injection he with he
   injection he with e1 e2
   exact⟨s,hs,h0,e1.symm,e2.symm⟩
  ·rw[if_neg h0]at he;cases he
 ·rintro⟨s,hs,h0,rfl,rfl⟩
  exact⟨s,hs,by rw[if_pos h0]⟩
theorem gm.fld (h:gm N p c L L.length S) (hok:N.Ok):gj N p c L (ck S)/\iU L.length (N.outs p 1 c).length 4294967296 (ck S):=by
 have row:∀{q a:Nat},L[q]? = some a->ck S q=N.aRow (N.outs p 1 c) L a (N.from_ (N.to a)):=fun {q a} hq=>by
  unfold ck
  rw[h.rows.2 q a (List.getElem?_eq_some_iff.1 hq).1 hq]
  rfl
 have memrow:∀{q a:Nat}{s:Stp},L[q]? = some a->(s∈ck S q↔∃b,N.aStep (N.outs p 1 c) L a b=some s):=fun {q a s} hq=>by
  rw[row hq]
  unfold ab.aRow
  rw[List.mem_filterMap]
  constructor
  ·rintro⟨b,_,hb⟩;exact⟨b,hb⟩
  ·rintro⟨b,hb⟩;exact⟨b,kV hok (go hb).1,hb⟩
 have inn:∀(i a r x:Nat),L[i]? = some a->((r,x)∈em (ck S i)↔∃b,L[r]? = some b/\N.turn a b<INF/\b ∉ N.outs p 1 c/\N.w b<INF/\x=(N.turn a b).toNat+(N.w b).toNat):=λi a r x hi=>by
  rw[ta]
  constructor
  ·rintro⟨s,hs,h0,rfl,rfl⟩
   obtain⟨b,hb⟩:=(memrow hi).1 hs
   obtain⟨t1,⟨_,rfl⟩ | ⟨t2,t3,rfl⟩⟩:=go hb
   ·simp only at h0;omega
   ·have hbL:=h.closed i a b (List.getElem?_eq_some_iff.1 hi).1 hi ⟨t1,t2,t3⟩
    have hb1:=ab.turn_bd hok a b
    have hb2:=ab.w_bd hok b
    exact⟨b,by simpa using aN hbL,t1,t2,t3,by simp only;omega⟩
  ·rintro⟨b,hr,t1,t2,t3,rfl⟩
   refine⟨_,(memrow hi).2 ⟨b,nG ⟨t1,t2,t3⟩⟩,by simp only;omega,by simp only[Int.toNat_natCast];exact(h.idx hr).symm,?_⟩
   have hb1:=ab.turn_bd hok a b
   have hb2:=ab.w_bd hok b
   simp only
   omega
 have out:∀(i a o y:Nat),L[i]? = some a->((o,y)∈gi (ck S i)↔∃b,(N.outs p 1 c)[o]? = some b/\N.turn a b<INF/\y=(N.turn a b).toNat):=λi a o y hi=>by
  rw[tc]
  constructor
  ·rintro⟨s,hs,h0,rfl,rfl⟩
   obtain⟨b,hb⟩:=(memrow hi).1 hs
   obtain⟨t1,⟨t2,rfl⟩ | ⟨t2,t3,rfl⟩⟩:=go hb
   ·exact⟨b,by simpa using aN t2,t1,rfl⟩
   ·simp only at h0;omega
  ·rintro⟨b,hr,t1,rfl⟩
   have hbm:=List.mem_of_getElem? hr
   refine⟨_,(memrow hi).2 ⟨b,pQ t1 hbm⟩,by simp only;omega,?_,rfl⟩
   simp only[Int.toNat_natCast]
   exact gg (aV _ _) hr (aN hbm)
 have at_q:∀{q:Nat},q<L.length->∃a,L[q]? = some a:=λhq=>⟨_,List.getElem?_eq_getElem hq⟩
 refine⟨⟨λi j a hi hj=>h.one hi hj,λi a hi=>?_,h.mem,inn,λi a b hi h1 h2 h3=>h.closed i a b (List.getElem?_eq_some_iff.1 hi).1 hi ⟨h1,h2,h3⟩,out⟩,⟨λq r x hq hm=>?_,λq o y hq hm=>?_,λq r x x' hq h1 h2=>?_,λq s hq hs=>?_⟩⟩
 ·obtain⟨M,hM⟩:=h.pre
  rw[hM,List.getElem?_append_left (List.getElem?_eq_some_iff.1 hi).1]
  exact hi
 ·obtain⟨a,ha⟩:=at_q hq
  obtain⟨b,hr,t1,t2,t3,rfl⟩:=(inn q a r x ha).1 hm
  have hb1:=ab.turn_bd hok a b
  have hb2:=ab.w_bd hok b
  unfold INF at *
  exact⟨(List.getElem?_eq_some_iff.1 hr).1,by omega⟩
 ·obtain⟨a,ha⟩:=at_q hq
  obtain⟨b,hr,t1,rfl⟩:=(out q a o y ha).1 hm
  have hb1:=ab.turn_bd hok a b
  unfold INF at *
  exact⟨(List.getElem?_eq_some_iff.1 hr).1,by omega⟩
 ·obtain⟨a,ha⟩:=at_q hq
  obtain⟨b,hr,-,-,-,rfl⟩:=(inn q a r x ha).1 h1
  obtain⟨b',hr',-,-,-,rfl⟩:=(inn q a r x' ha).1 h2
  rw[hr]at hr'
  injection hr' with hr'
  rw[hr']
 ·obtain⟨a,ha⟩:=at_q hq
  obtain⟨b,hb⟩:=(memrow ha).1 hs
  have hb1:=ab.turn_bd hok a b
  have hb2:=ab.w_bd hok b
  obtain⟨t1,⟨t2,rfl⟩ | ⟨t2,t3,rfl⟩⟩:=go hb
  ·have:=List.idxOf_lt_length_of_mem t2
   unfold INF at *
   simp only
   omega
  ·have hbL:=h.closed q a b hq ha ⟨t1,t2,t3⟩
   have:=List.idxOf_lt_length_of_mem hbL
   unfold INF at *
   simp only
   omega
end
end
section
open Go Go.RowKit
structure fo (N:ab) (p:List (List Int)) (k c:Nat) (ks:List Nat):Prop where
 asc:ks.Pairwise (· < ·)
 mem:∀d,d∈ks↔∃v,v<N.nv/\cel p k v=c/\cel p (k - 1) v=d
def ab.LK (N:ab) (p:List (List Int)) (k:Nat) (ks:List Nat):Nat->List Nat
 | 0=>[]
 | i+1=>N.LK p k ks i ++ N.ins p (k - 1) ((ks[i]?).getD 0)
def ab.firstK (N:ab) (p:List (List Int)) (k d j:Nat):Int:=if N.outs p (k - 1) d = [] then -1 else((N.start p (k - 1) d+j*(N.outs p (k - 1) d).length:Nat):Int)
def ab.spK (N:ab) (p:List (List Int)) (k:Nat) (ks:List Nat):Nat->List (Int×Int)
 | 0=>[]
 | i+1=>N.spK p k ks i ++ (List.range (N.ins p (k - 1) ((ks[i]?).getD 0)).length).map λj=>(N.firstK p k ((ks[i]?).getD 0) j,(i:Int))
def ab.kStep (N:ab) (p:List (List Int)) (k c:Nat) (L:List Nat) (m:Nat):Stp:=
 if m∈N.outs p k c then(0,(((N.outs p k c).idxOf m:Nat):Int),0) else if m∈L then(((L.idxOf m:Nat):Int),-1,N.w m) else(0,-1,INF)
def fI (costs:List Int) (first:Nat) (ls:List Stp) (j:Nat):Option Stp:=
 match ls[j]? with
 | some s=>if at_ costs (first+j)<INF/\s.2.2<INF then some (s.1,s.2.1,s.2.2+at_ costs (first+j)) else none
 | none=>none
def nH (costs:List Int) (first:Nat) (ls:List Stp):List Stp:=(List.range ls.length).filterMap (fI costs first ls)
def ab.kList (N:ab) (p:List (List Int)) (k c:Nat) (ks:List Nat) (i:Nat):List Stp:=(N.outs p (k - 1) ((ks[i]?).getD 0)).map (N.kStep p k c (N.LK p k ks ks.length))
def ab.kSteps (N:ab) (p:List (List Int)) (k c:Nat) (ks:List Nat) (costs:List Int) (q:Nat):List Stp:=
 match (N.spK p k ks ks.length)[q]? with
 | some x=>nH costs x.1.toNat (N.kList p k c ks x.2.toNat)
 | none=>[]
section
variable {N:ab}{p:List (List Int)}{k c:Nat}{ks:List Nat}{costs:List Int}
theorem iF:∀n,(N.spK p k ks n).length=(N.LK p k ks n).length
 | 0=>rfl
 | n+1=>by simp[ab.spK,ab.LK,iF n]
theorem vS {q a:Nat}:∀n,n<=ks.length->(N.LK p k ks n)[q]? = some a->∃i j d,i<n/\ks[i]? = some d/\(N.ins p (k - 1) d)[j]? = some a/\(N.spK p k ks n)[q]? = some (N.firstK p k d j,(i:Int))
 | 0,_,h=>by simp[ab.LK]at h
 | n+1,hn,h=>by
  have hd:ks[n]? = some ((ks[n]?).getD 0):=by rw[List.getElem?_eq_getElem (by omega)];rfl
  unfold ab.LK at h
  rw[List.getElem?_append]at h
  split at h
  ·rename_i hlt
   obtain⟨i,j,d,h1,h2,h3,h4⟩:=vS n (by omega) h
   refine⟨i,j,d,by omega,h2,h3,?_⟩
   unfold ab.spK
   rw[List.getElem?_append_left (by rw[iF];exact hlt)]
   exact h4
  ·rename_i hge
   refine⟨n,q - (N.LK p k ks n).length,_,by omega,hd,h,?_⟩
   have hj:=(List.getElem?_eq_some_iff.1 h).1
   unfold ab.spK
   rw[List.getElem?_append_right (by rw[iF];omega),iF]
   simp[hj]
theorem rh {a:Nat}:∀n,n<=ks.length->(a∈N.LK p k ks n↔∃i d,i<n/\ks[i]? = some d/\a∈N.ins p (k - 1) d)
 | 0,_=>by simp[ab.LK]
 | n+1,hn=>by
  have hd:ks[n]? = some ((ks[n]?).getD 0):=by rw[List.getElem?_eq_getElem (by omega)];rfl
  unfold ab.LK
  rw[List.mem_append,rh n (by omega)]
  constructor
  ·rintro(⟨i,d,h1,h2,h3⟩ | h)
   ·exact⟨i,d,by omega,h2,h3⟩
   ·exact⟨n,_,by omega,hd,h⟩
  ·rintro⟨i,d,h1,h2,h3⟩
   by_cases e:i=n
   ·subst e
    rw[h2]
    exact .inr h3
   ·exact .inl ⟨i,d,by omega,h2,h3⟩
theorem j6 (hks:ks.Pairwise (· < ·)):∀n,n<=ks.length->(N.LK p k ks n).Nodup
 | 0,_=>by simp[ab.LK]
 | n+1,hn=>by
  have hd:ks[n]? = some ((ks[n]?).getD 0):=by rw[List.getElem?_eq_getElem (by omega)];rfl
  unfold ab.LK
  refine List.nodup_append.2 ⟨j6 hks n (by omega),List.Pairwise.imp (λh=>Nat.ne_of_lt h) (aV _ _),λa ha b hb e=>?_⟩
  subst e
  obtain⟨i,d,h1,h2,h3⟩:=(rh n (by omega)).1 ha
  have e1:=(ab.mem_ins.1 h3).2.1
  have e2:=(ab.mem_ins.1 hb).2.1
  have:d<(ks[n]?).getD 0:=iC hks h2 hd h1
  omega
theorem ze (hks:ks.Pairwise (· < ·)){n j a:Nat}(hn:n<ks.length) (ha:(N.ins p (k - 1) ((ks[n]?).getD 0))[j]? = some a):a ∉ N.LK p k ks n ++ (N.ins p (k - 1) ((ks[n]?).getD 0)).take j:=by
 have h1:=j6 (N:=N) (p:=p) (k:=k) hks (n+1) hn
 unfold ab.LK at h1
 intro hm
 have ham:=List.mem_of_getElem? ha
 rcases List.mem_append.1 hm with hm | hm
 ·exact(List.nodup_append.1 h1).2.2 a hm a ham rfl
 ·obtain⟨i,hi,he⟩:=List.mem_take_iff_getElem.1 hm
  have h2:(N.ins p (k - 1) ((ks[n]?).getD 0))[i]? = some a:=by rw[List.getElem?_eq_getElem (by omega),he]
  have:=dq (List.nodup_append.1 h1).2.1 h2 ha
  omega
theorem zf (hks:ks.Pairwise (· < ·)){n:Nat}(hn:n<=ks.length):(N.LK p k ks n).length<=N.na:=iD (j6 hks n hn) λa ha=>by
 obtain⟨i,d,h1,h2,h3⟩:=(rh n hn).1 ha
 exact(ab.mem_ins.1 h3).1
theorem xy {first:Nat}{ls:List Stp}{s:Stp}:s∈nH costs first ls↔∃j t,ls[j]? = some t/\at_ costs (first+j)<INF/\t.2.2<INF/\s=(t.1,t.2.1,t.2.2+at_ costs (first+j)):=by
 unfold nH
 rw[List.mem_filterMap]
 constructor
 ·rintro⟨j,hj,h⟩
  unfold fI at h
  cases ht:ls[j]? with
  | none=>rw[ht]at h;cases h
  | some t=>
   rw[ht]at h
   simp only at h
   by_cases hc:at_ costs (first+j)<INF/\t.2.2<INF
   ·rw[if_pos hc]at h
    injection h with h
    exact⟨j,t,ht,hc.1,hc.2,h.symm⟩
   ·rw[if_neg hc]at h;cases h
 ·rintro⟨j,t,ht,h1,h2,rfl⟩
  refine⟨j,by simpa using(List.getElem?_eq_some_iff.1 ht).1,?_⟩
  unfold fI
  rw[ht]
  simp only
  rw[if_pos ⟨h1,h2⟩]
theorem fo.in_kid (hK:fo N p k c ks) (hok:N.Ok) (hp:ax N.nv p) (hk:2<=k) (hkl:k<=p.length){a:Nat}:a∈N.LK p k ks ks.length↔N.kidIn p k c a:=by
 rw[rh ks.length (Nat.le_refl _)]
 constructor
 ·rintro⟨i,d,h1,h2,h3⟩
  obtain⟨g1,g2,g3⟩:=ab.mem_ins.1 h3
  obtain⟨v,v1,v2,v3⟩:=(hK.mem d).1 (List.mem_of_getElem? h2)
  have ht:=(ab.to_lt hok g1).1
  have:cel p k (N.to a)=cel p k v:=bW hp (l:=k - 1) (by omega) (by omega) hkl ht v1 (g2.trans v3.symm)
  exact⟨g1,this.trans v2,rfl,by rw[g2];exact g3⟩
 ·rintro⟨g1,g2,g3,g4⟩
  have ht:=(ab.to_lt hok g1).1
  obtain⟨i,hi⟩:=List.getElem?_of_mem ((hK.mem (cel p (k - 1) (N.to a))).2 ⟨N.to a,ht,g2,rfl⟩)
  exact⟨i,_,(List.getElem?_eq_some_iff.1 hi).1,hi,ab.mem_ins.2 ⟨g1,g3,g4⟩⟩
theorem fo.lt (hK:fo N p k c ks) (hp:ax N.nv p) (hk:2<=k) (hkl:k<=p.length){d:Nat}(hd:d∈ks):d<ap p (k - 1):=by
 obtain⟨v,v1,v2,v3⟩:=(hK.mem d).1 hd
 rw[<-v3]
 exact cE hp (by omega) (by omega) v1
theorem j7 (hok:N.Ok) (hp:ax N.nv p) (hk:2<=k) (hkl:k<=p.length){a:Nat}(ha:a∈N.ins p k c):N.kidIn p k c a:=by
 obtain⟨g1,g2,g3⟩:=ab.mem_ins.1 ha
 refine⟨g1,g2,rfl,λe=>g3 ?_⟩
 rw[<-g2]
 exact bW hp (l:=k - 1) (by omega) (by omega) hkl (ab.fr_lt hok g1).1 (ab.to_lt hok g1).1 e
theorem fo.fld (hK:fo N p k c ks) (hok:N.Ok) (hp:ax N.nv p) (hk:2<=k) (hkl:k<=p.length) (hc:∀d,d∈ks->bo N p costs (k - 1) d) :
  gk N p k c (N.ent p costs) (N.LK p k ks ks.length) ((N.ins p k c).map λa=>(N.LK p k ks ks.length).idxOf a) (N.kSteps p k c ks costs)/\iU (N.LK p k ks ks.length).length (N.outs p k c).length (4294967296*(N.na+2)) (N.kSteps p k c ks costs)/\j0 N p k c (N.ent p costs):=by
 obtain⟨L,hL⟩:∃L,N.LK p k ks ks.length=L:=⟨_,rfl⟩
 have hnd:L.Nodup:=by rw[<-hL];exact j6 hK.asc _ (Nat.le_refl _)
 have hmem:∀{a},a∈L↔N.kidIn p k c a:=fun {a}=>by rw[<-hL];exact hK.in_kid hok hp hk hkl
 have kidmem:∀{a},N.kidIn p k c a->cel p (k - 1) (N.to a)∈ks:=fun {a} ha=>(hK.mem _).2 ⟨N.to a,(ab.to_lt hok ha.1).1,ha.2.1,rfl⟩
 have hbel:j0 N p k c (N.ent p costs):=λa b ha hb=>by
  have ham:a∈N.ins p (k - 1) (cel p (k - 1) (N.to a)):=ab.mem_ins.2 ⟨ha.1,ha.2.2⟩
  exact hc _ (kidmem ha) _ _ a b (aN ham) (aN hb)
 have row:∀{q a:Nat},L[q]? = some a->∃d,d=cel p (k - 1) (N.to a)/\a∈N.ins p (k - 1) d/\N.kSteps p k c ks costs q=nH costs (N.firstK p k d ((N.ins p (k - 1) d).idxOf a)).toNat ((N.outs p (k - 1) d).map (N.kStep p k c L)):=fun {q a} hq=>by
  rw[<-hL]at hq
  obtain⟨i,j,d,h1,h2,h3,h4⟩:=vS ks.length (Nat.le_refl _) hq
  have hm:=List.mem_of_getElem? h3
  have hj:(N.ins p (k - 1) d).idxOf a=j:=gg (aV _ _) (aN hm) h3
  refine⟨d,(ab.mem_ins.1 hm).2.1.symm,hm,?_⟩
  unfold ab.kSteps
  rw[h4]
  simp only[Int.toNat_natCast]
  rw[hj]
  unfold ab.kList
  rw[h2,hL]
  rfl
 have ent_eq:∀{a m j:Nat},a∈N.ins p (k - 1) (cel p (k - 1) (N.to a))->(N.outs p (k - 1) (cel p (k - 1) (N.to a)))[j]? = some m->at_ costs ((N.firstK p k (cel p (k - 1) (N.to a)) ((N.ins p (k - 1) (cel p (k - 1) (N.to a))).idxOf a)).toNat+j)=N.ent p costs (k - 1) a m:=fun {a m j} ha hm=>by
  have hne:N.outs p (k - 1) (cel p (k - 1) (N.to a))≠[]:=λe=>by rw[e]at hm;simp at hm
  have hj:(N.outs p (k - 1) (cel p (k - 1) (N.to a))).idxOf m=j:=gg (aV _ _) (aN (List.mem_of_getElem? hm)) hm
  unfold ab.firstK ab.ent
  rw[if_neg hne,Int.toNat_natCast,hj,Nat.add_assoc]
 have memrow:∀{q a:Nat}{s:Stp},L[q]? = some a->(s∈N.kSteps p k c ks costs q↔∃m,m∈N.outs p (k - 1) (cel p (k - 1) (N.to a))/\N.ent p costs (k - 1) a m<INF/\(N.kStep p k c L m).2.2<INF/\s=((N.kStep p k c L m).1,(N.kStep p k c L m).2.1,(N.kStep p k c L m).2.2+N.ent p costs (k - 1) a m)):=fun {q a s} hq=>by
  obtain⟨d,rfl,ham,hr⟩:=row hq
  rw[hr,xy]
  constructor
  ·rintro⟨j,t,ht,h1,h2,rfl⟩
   rw[List.getElem?_map]at ht
   cases hm:(N.outs p (k - 1) (cel p (k - 1) (N.to a)))[j]? with
   | none=>rw[hm]at ht;cases ht
   | some m=>
    rw[hm]at ht
    injection ht with ht
    subst ht
    rw[ent_eq ham hm]at h1⊢
    exact⟨m,List.mem_of_getElem? hm,h1,h2,rfl⟩
  ·rintro⟨m,hm,h1,h2,rfl⟩
   obtain⟨j,hj⟩:=List.getElem?_of_mem hm
   refine⟨j,_,by rw[List.getElem?_map,hj];rfl,?_,h2,?_⟩
   ·rw[ent_eq ham hj];exact h1
   ·rw[ent_eq ham hj]
 have stepO:∀{m},m∈N.outs p k c->N.kStep p k c L m=(0,(((N.outs p k c).idxOf m:Nat):Int),0):=λhm=>by unfold ab.kStep;rw[if_pos hm]
 have stepI:∀{m},m ∉ N.outs p k c->m∈L->N.kStep p k c L m=(((L.idxOf m:Nat):Int),-1,N.w m):=λh1 h2=>by unfold ab.kStep;rw[if_neg h1,if_pos h2]
 have stepN:∀{m},m ∉ N.outs p k c->m ∉ L->N.kStep p k c L m=(0,-1,INF):=λh1 h2=>by unfold ab.kStep;rw[if_neg h1,if_neg h2]
 have entb:∀{a m},N.kidIn p k c a->m∈N.outs p (k - 1) (cel p (k - 1) (N.to a))->0<=N.ent p costs (k - 1) a m/\(N.ent p costs (k - 1) a m<INF->N.ent p costs (k - 1) a m<=4294967296*((N.na:Int)+1)):=λha hm=>⟨(hbel _ _ ha hm).bd.1,λh=>(hbel _ _ ha hm).top hok h⟩
 have inn:∀(i a r x:Nat),L[i]? = some a->((r,x)∈em (N.kSteps p k c ks costs i)↔∃m,L[r]? = some m/\m∈N.outs p (k - 1) (cel p (k - 1) (N.to a))/\m ∉ N.outs p k c/\N.ent p costs (k - 1) a m<INF/\N.w m<INF/\x=(N.ent p costs (k - 1) a m).toNat+(N.w m).toNat):=λi a r x hi=>by
  have ha:=hmem.1 (List.mem_of_getElem? hi)
  rw[ta]
  constructor
  ·rintro⟨s,hs,h0,rfl,rfl⟩
   obtain⟨m,m1,m2,m3,rfl⟩:=(memrow hi).1 hs
   by_cases g1:m∈N.outs p k c
   ·rw[stepO g1]at h0
    simp only at h0
    omega
   ·by_cases g2:m∈L
    ·rw[stepI g1 g2]at m3⊢
     simp only at m3⊢
     have hb2:=ab.w_bd hok m
     have hb1:=(entb ha m1).1
     exact⟨m,by simpa using aN g2,m1,g1,m2,m3,by omega⟩
    ·rw[stepN g1 g2]at m3
     exact absurd m3 (Int.lt_irrefl _)
  ·rintro⟨m,hr,m1,m2,m3,m4,rfl⟩
   have hmL:=List.mem_of_getElem? hr
   have hs:=stepI m2 hmL
   have hb2:=ab.w_bd hok m
   have hb1:=(entb ha m1).1
   refine⟨_,(memrow hi).2 ⟨m,m1,m3,by rw[hs];exact m4,rfl⟩,by rw[hs];simp only;omega,by rw[hs];simp only[Int.toNat_natCast];exact(dq hnd (aN hmL) hr).symm,by rw[hs];simp only;omega⟩
 have out:∀(i a o y:Nat),L[i]? = some a->((o,y)∈gi (N.kSteps p k c ks costs i)↔∃b,(N.outs p k c)[o]? = some b/\b∈N.outs p (k - 1) (cel p (k - 1) (N.to a))/\N.ent p costs (k - 1) a b<INF/\y=(N.ent p costs (k - 1) a b).toNat):=λi a o y hi=>by
  have ha:=hmem.1 (List.mem_of_getElem? hi)
  rw[tc]
  constructor
  ·rintro⟨s,hs,h0,rfl,rfl⟩
   obtain⟨m,m1,m2,m3,rfl⟩:=(memrow hi).1 hs
   by_cases g1:m∈N.outs p k c
   ·rw[stepO g1]
    simp only[Int.toNat_natCast,Int.zero_add]
    exact⟨m,aN g1,m1,m2,rfl⟩
   ·by_cases g2:m∈L
    ·rw[stepI g1 g2]at h0
     simp only at h0
     omega
    ·rw[stepN g1 g2]at m3
     exact absurd m3 (Int.lt_irrefl _)
  ·rintro⟨b,hr,m1,m2,rfl⟩
   have hbm:=List.mem_of_getElem? hr
   have hs:=stepO hbm
   refine⟨_,(memrow hi).2 ⟨b,m1,m2,by rw[hs];exact(by decide:(0:Int)<INF),rfl⟩,by rw[hs];simp only;omega,by rw[hs];simp only[Int.toNat_natCast];exact gg (aV _ _) hr (aN hbm),by rw[hs];simp only[Int.zero_add]⟩
 have at_q:∀{q:Nat},q<L.length->∃a,L[q]? = some a:=λhq=>⟨_,List.getElem?_eq_getElem hq⟩
 rw[hL]
 refine⟨⟨λa=>hmem,λi a hi=>?_,inn,out⟩,⟨λq r x hq hm=>?_,λq o y hq hm=>?_,λq r x x' hq h1 h2=>?_,λq s hq hs=>?_⟩,hbel⟩
 ·have haL:=hmem.2 (j7 hok hp hk hkl (List.mem_of_getElem? hi))
  exact⟨L.idxOf a,by rw[List.getElem?_map,hi];rfl,aN haL⟩
 ·obtain⟨a,ha⟩:=at_q hq
  have hka:=hmem.1 (List.mem_of_getElem? ha)
  obtain⟨m,hr,m1,m2,m3,m4,rfl⟩:=(inn q a r x ha).1 hm
  have hb2:=ab.w_bd hok m
  have hb1:=entb hka m1
  have hb3:=hb1.2 m3
  unfold INF at *
  exact⟨(List.getElem?_eq_some_iff.1 hr).1,by omega⟩
 ·obtain⟨a,ha⟩:=at_q hq
  have hka:=hmem.1 (List.mem_of_getElem? ha)
  obtain⟨b,hr,m1,m2,rfl⟩:=(out q a o y ha).1 hm
  have hb1:=entb hka m1
  have hb3:=hb1.2 m2
  exact⟨(List.getElem?_eq_some_iff.1 hr).1,by omega⟩
 ·obtain⟨a,ha⟩:=at_q hq
  obtain⟨b,hr,-,-,-,-,rfl⟩:=(inn q a r x ha).1 h1
  obtain⟨b',hr',-,-,-,-,rfl⟩:=(inn q a r x' ha).1 h2
  rw[hr]at hr'
  injection hr' with hr'
  rw[hr']
 ·obtain⟨a,ha⟩:=at_q hq
  have hka:=hmem.1 (List.mem_of_getElem? ha)
  obtain⟨m,m1,m2,m3,rfl⟩:=(memrow ha).1 hs
  have hb1:=entb hka m1
  have hb3:=hb1.2 m2
  have hb2:=ab.w_bd hok m
  by_cases g1:m∈N.outs p k c
  ·rw[stepO g1]
   have:=List.idxOf_lt_length_of_mem g1
   simp only
   omega
  ·by_cases g2:m∈L
   ·rw[stepI g1 g2]at m3⊢
    have:=List.idxOf_lt_length_of_mem g2
    unfold INF at *
    simp only at m3⊢
    omega
   ·rw[stepN g1 g2]at m3
    exact absurd m3 (Int.lt_irrefl _)
end
end
section
open Go Go.RowKit
def kW (up:List Int) (m:Nat):Prop:=∀(c:Nat) (y z:Int),c+1<m->up[c]? = some y->up[c+1]? = some z->y<=z
theorem kW.to {up:List Int}{m:Nat}(h:kW up m) (hd:∀c,c<m->∃y,up[c]? = some y):∀(k c:Nat) (y z:Int),c+k<m->up[c]? = some y->up[c+k]? = some z->y<=z
 | 0,c,y,z,hm,hy,hz=>by
  rw[Nat.add_zero]at hz
  rw[hy]at hz
  injection hz with hz
  omega
 | k+1,c,y,z,hm,hy,hz=>by
  obtain⟨x,hx⟩:=hd (c+k) (by omega)
  have h1:=kW.to h hd k c y x (by omega) hy hx
  have h2:=h (c+k) x z (by omega) hx hz
  omega
theorem zg {low row up:List Int}{n:Nat}(hin:jW n low) (hfull:dW low) (hl:low.length=row.length)
  (hup:∀(v:Nat) (x y:Int),low[v]? = some x->row[v]? = some y->up[x.toNat]? = some y):eW low row↔kW up (aI low).toNat:=by
 have hm:=cD low
 have hat:∀c:Nat,c<(aI low).toNat->∃(v:Nat) (y:Int),low[v]? = some (c:Int)/\row[v]? = some y/\up[c]? = some y:=λc hc=>by
  have h1:=hfull (c:Int) (by omega) (by omega)
  obtain⟨v,hv⟩:=List.mem_iff_getElem?.1 h1
  have hlt:=(List.getElem?_eq_some_iff.1 hv).1
  have hr:row[v]? = some (row[v]'(by omega)):=List.getElem?_eq_getElem _
  have h2:=hup v _ _ hv hr
  rw[Int.toNat_natCast]at h2
  exact⟨v,_,hv,hr,h2⟩
 constructor
 ·intro h c y z hc hy hz
  obtain⟨v,y',h1,h2,h3⟩:=hat c (by omega)
  obtain⟨v',z',k1,k2,k3⟩:=hat (c+1) (by omega)
  rw[h3]at hy
  rw[k3]at hz
  injection hy with hy
  injection hz with hz
  subst hy hz
  exact h v v' _ _ _ _ h1 k1 h2 k2 (by omega)
 ·intro h a b x y x' y' h1 h2 h3 h4 hxy
  have hx0:=(hin x (List.mem_of_getElem? h1)).1
  have hx1:=kS (List.mem_of_getElem? h1)
  have hy1:=kS (List.mem_of_getElem? h2)
  have u1:=hup a x x' h1 h3
  have u2:=hup b y y' h2 h4
  have e:y.toNat=x.toNat+(y.toNat - x.toNat):=by omega
  rw[e]at u2
  exact h.to (λc hc=>by obtain⟨v,z,-,-,h⟩:=hat c hc;exact⟨z,h⟩) _ _ _ _ (by omega) u1 u2
theorem te {row:List Int}{n:Nat}(hin:jW n row):dW row↔∀c:Nat,c<(aI row).toNat->(row.count (c:Int):Int)≠0:=by
 constructor
 ·intro h c hc h0
  have h1:=h (c:Int) (by omega) (by omega)
  have h2:=List.count_pos_iff.2 h1
  omega
 ·intro h c h0 h1
  have h2:=h c.toNat (by omega)
  rw[show((c.toNat:Nat):Int)=c by omega]at h2
  exact List.count_pos_iff.1 (by omega)
end
section
open Go Go.RowKit
structure Shp (N M:ab):Prop where
 vs:M.vs=N.vs
 xa:M.xa.map (λx=>(x.1,x.2.1))=N.xa.map λx=>(x.1,x.2.1)
 ts:M.ts.map (λt=>(t.1,t.2.1))=N.ts.map λt=>(t.1,t.2.1)
theorem Shp.refl (N:ab):Shp N N:=⟨rfl,rfl,rfl⟩
section
variable {N M L:ab}{p:List (List Int)}
theorem Shp.trans (S:Shp N M) (T:Shp M L):Shp N L:=⟨T.vs.trans S.vs,T.xa.trans S.xa,T.ts.trans S.ts⟩
theorem Shp.na (S:Shp N M):M.na=N.na:=by have:=congrArg List.length S.xa;simpa[ab.na]using this
theorem Shp.nv (S:Shp N M):M.nv=N.nv:=by unfold ab.nv;rw[S.vs]
theorem Shp.nt (S:Shp N M):M.ts.length=N.ts.length:=by have:=congrArg List.length S.ts;simpa using this
theorem Shp.two (S:Shp N M) (a:Nat):(M.xa[a]?).map (λx=>(x.1,x.2.1))=(N.xa[a]?).map λx=>(x.1,x.2.1):=by
 rw[<-List.getElem?_map,<-List.getElem?_map,S.xa]
theorem Shp.arc (S:Shp N M) (a:Nat):(M.arc a).1=(N.arc a).1/\(M.arc a).2.1=(N.arc a).2.1:=by
 have h:=S.two a
 unfold ab.arc
 cases h1:M.xa[a]? <;>cases h2:N.xa[a]? <;>rw[h1,h2]at h <;>simp at h <;>simp[h]
theorem Shp.fr (S:Shp N M) (a:Nat):M.fr a=N.fr a:=by unfold ab.fr;rw[(S.arc a).1]
theorem Shp.to (S:Shp N M) (a:Nat):M.to a=N.to a:=by unfold ab.to;rw[(S.arc a).2]
theorem Shp.hit (S:Shp N M):hit M.xa=hit N.xa:=by
 funext q v j
 have h:=S.two j
 unfold Go.Proofs.YtaomlhopkfmheaaGreatDoor.hit
 cases h1:M.xa[j]? <;>cases h2:N.xa[j]? <;>rw[h1,h2]at h <;>simp at h <;>simp[h]
theorem Shp.ends (S:Shp N M):ends M.xa=ends N.xa:=by
 funext k q
 unfold Go.Proofs.YtaomlhopkfmheaaGreatDoor.ends
 rw[S.hit]
theorem Shp.inPl (S:Shp N M) (a:Nat):M.inPl a=N.inPl a:=by unfold ab.inPl;rw[S.ends,S.to]
theorem Shp.outPl (S:Shp N M) (a:Nat):M.outPl a=N.outPl a:=by unfold ab.outPl;rw[S.ends,S.fr]
theorem Shp.ins (S:Shp N M) (k c:Nat):M.ins p k c=N.ins p k c:=by
 unfold ab.ins
 rw[S.na]
 congr 1
 funext a
 unfold ab.insB
 rw[S.to,S.fr]
theorem Shp.outs (S:Shp N M) (k c:Nat):M.outs p k c=N.outs p k c:=by
 unfold ab.outs
 rw[S.na]
 congr 1
 funext a
 unfold ab.outsB
 rw[S.to,S.fr]
theorem Shp.sz (S:Shp N M):M.sz p=N.sz p:=by
 funext k c
 unfold ab.sz
 rw[S.ins,S.outs]
theorem Shp.lsz (S:Shp N M):M.lsz p=N.lsz p:=by
 funext j
 unfold ab.lsz
 rw[S.sz]
theorem Shp.start (S:Shp N M):M.start p=N.start p:=by
 funext k c
 unfold ab.start
 rw[S.sz,S.lsz]
theorem Shp.size (S:Shp N M):M.size p=N.size p:=by unfold ab.size;rw[S.lsz]
theorem Shp.win (S:Shp N M) (k c:Nat):M.win p k c=N.win p k c:=by
 funext a
 unfold ab.win
 rw[S.to,S.fr]
structure dO (N M:ab) (p:List (List Int)) (k c:Nat):Prop where
 w:∀a,a<N.na->N.win p k c a->M.w a=N.w a
 tab:∀v,v<N.nv->cel p k v=c->M.tab v=N.tab v
theorem an.congr {e e':Nat->Nat->Option Nat}{P:Nat->Prop}{a d c:Nat}(h:∀b d,(b=a\/P b)->P d->e b d=e' b d) (w:an e P a d c):an e' P a d c:=by
 induction w with
 | here=>exact .here
 | @on b d c x hw he hp ih=>exact .on ih ((h b d hw.mem hp).symm.trans he) hp
theorem dO.turn (S:Shp N M) (hok:N.Ok){k c:Nat}(I:dO N M p k c){d b:Nat}(hd:d<N.na->cel p k (N.to d)=c):M.turn d b=N.turn d b:=by
 unfold ab.turn
 rw[S.na,S.to,S.fr,S.inPl,S.outPl]
 by_cases h:d<N.na/\b<N.na/\N.to d=N.fr b
 ·rw[if_pos h,if_pos h,I.tab _ (ab.to_lt hok h.1).1 (hd h.1)]
 ·rw[if_neg h,if_neg h]
theorem dO.e (S:Shp N M) (hok:N.Ok){k c:Nat}(I:dO N M p k c){d b:Nat}(hd:d<N.na->cel p k (N.to d)=c) (hb:b<N.na->N.win p k c b):M.e d b=N.e d b:=by
 have ht:=dO.turn S hok I (b:=b) hd
 have hw:M.w b=N.w b:=by
  by_cases h:b<N.na
  ·exact I.w b h (hb h)
  ·unfold ab.w;rw[S.na,if_neg h,if_neg h]
 unfold ab.e eT ab.tr ab.ok ab.wn
 rw[ht,hw]
theorem fE.same (S:Shp N M) (hok:N.Ok){k c:Nat}(I:dO N M p k c){a b:Nat}{v:Int}(ha:cel p k (N.to a)=c) (h:fE N (N.win p k c) a b v):fE M (M.win p k c) a b v:=by
 have hs:∀d,(d=a\/N.win p k c d)->d<N.na->cel p k (N.to d)=c:=λd hd _=>by
  rcases hd with rfl | hd
  ·exact ha
  ·exact hd.2
 have he:∀d b,(d=a\/N.win p k c d)->N.win p k c b->M.e d b=N.e d b:=λd b hd hb=>dO.e S hok I (hs d hd) λ_=>hb
 have htr:∀d,(d=a\/N.win p k c d)->M.tr d b=N.tr d b:=λd hd=>by unfold ab.tr;rw[dO.turn S hok I (hs d hd)]
 rw[S.win]
 refine⟨h.bd,λd x y hw hy=>?_,λhlt=>?_⟩
 ·have hw':=hw.congr he
  exact h.least d x y hw' ((htr d hw'.mem).symm.trans hy)
 ·obtain⟨d,x,y,h1,h2,h3⟩:=h.way hlt
  exact⟨d,x,y,h1.congr λb d hb hd=>(he b d hb hd).symm,(htr d h1.mem).trans h2,h3⟩
theorem bo.same (S:Shp N M) (hok:N.Ok){k c:Nat}(I:dO N M p k c){costs:List Int}(h:bo N p costs k c):bo M p costs k c:=by
 intro i j a b hi hj
 rw[S.ins]at hi
 rw[S.outs]at hj
 rw[S.outs,S.start]
 have:=ab.mem_ins.1 (List.mem_of_getElem? hi)
 exact(h i j a b hi hj).same S hok I this.2.1
end
abbrev Chg:=Int×Int×Int×Int×Int
def ab.setW (N:ab) (a:Nat) (w:Int):ab:={ N with xa:=N.xa.set a ((N.arc a).1,(N.arc a).2.1,w) }
def ab.tb (N:ab) (t:Nat):Tab:=(N.ts[t]?).getD (0,0,[])
def uI (t:Tab) (i o:Nat) (c:Int):Tab:=(t.1,t.2.1,t.2.2.set (i*t.2.1.toNat+o) c)
def ab.bend (N:ab) (t i o:Nat) (c:Int):ab:={ N with ts:=N.ts.set t (uI (N.tb t) i o c) }
def ab.do1 (N:ab) (x:Chg):ab:=if x.1=1 then N.setW x.2.1.toNat x.2.2.2.2 else N.bend x.2.1.toNat x.2.2.1.toNat x.2.2.2.1.toNat x.2.2.2.2
def ab.doL (N:ab) (l:List Chg):ab:=l.foldl ab.do1 N
def ab.isTurn (N:ab) (x:Chg):Prop:=(0<=x.2.1/\x.2.1<N.ts.length)/\(0<=x.2.2.1/\x.2.2.1<(N.tb x.2.1.toNat).1)/\(0<=x.2.2.2.1/\x.2.2.2.1<(N.tb x.2.1.toNat).2.1)
instance (N:ab) (x:Chg):Decidable (N.isTurn x):=by unfold ab.isTurn;infer_instance
def ab.wrong (N:ab) (x:Chg):Int:=
 if x.1≠1/\x.1≠2 then 1
 else if x.1=1/\(x.2.2.1≠0\/x.2.2.2.1≠0) then 1
 else if x.1=1/\(x.2.1<0\/(N.na:Int)<=x.2.1) then 5
 else if x.1=2/\¬N.isTurn x then 5
 else if aL x.2.2.2.2=true then 0 else 8
structure dJ (N:ab) (x:Chg):Prop where
 w:aL x.2.2.2.2=true
 is:(x.1=1/\0<=x.2.1/\x.2.1<N.na/\x.2.2.1=0/\x.2.2.2.1=0)\/(x.1=2/\N.isTurn x)
theorem ab.wrong_ok {N:ab}{x:Chg}:N.wrong x=0↔dJ N x:=by
 unfold ab.wrong
 constructor
 ·intro h
  by_cases h1:x.1≠1/\x.1≠2
  ·rw[if_pos h1]at h;cases h
  rw[if_neg h1]at h
  by_cases h2:x.1=1/\(x.2.2.1≠0\/x.2.2.2.1≠0)
  ·rw[if_pos h2]at h;cases h
  rw[if_neg h2]at h
  by_cases h3:x.1=1/\(x.2.1<0\/(N.na:Int)<=x.2.1)
  ·rw[if_pos h3]at h;cases h
  rw[if_neg h3]at h
  by_cases h4:x.1=2/\¬N.isTurn x
  ·rw[if_pos h4]at h;cases h
  rw[if_neg h4]at h
  by_cases h5:aL x.2.2.2.2=true
  ·refine⟨h5,?_⟩
   by_cases e1:x.1=1
   ·exact .inl ⟨e1,by omega,by omega,by omega,by omega⟩
   ·have e2:x.1=2:=by omega
    exact .inr ⟨e2,Classical.byContradiction λhn=>h4 ⟨e2,hn⟩⟩
  ·rw[if_neg h5]at h;cases h
 ·rintro⟨hw,⟨e1,e2,e3,e4,e5⟩ | ⟨e1,e2⟩⟩
  ·rw[if_neg (by omega),if_neg (by omega),if_neg (by omega),if_neg (by rintro⟨h,-⟩;omega),if_pos hw]
  ·rw[if_neg (by omega),if_neg (by omega),if_neg (by omega),if_neg (λh=>h.2 e2),if_pos hw]
section
variable {N M:ab}{p:List (List Int)}
theorem ab.setW_shp (a:Nat) (w:Int):Shp N (N.setW a w):=by
 refine⟨rfl,?_,rfl⟩
 apply List.ext_getElem?
 intro j
 unfold ab.setW
 simp only[List.getElem?_map,List.getElem?_set]
 by_cases h:a=j
 ·subst h
  rw[if_pos rfl]
  by_cases hl:a<N.xa.length
  ·rw[if_pos hl]
   simp[ab.arc,List.getElem?_eq_getElem hl]
  ·rw[if_neg hl,List.getElem?_eq_none (by omega)]
 ·rw[if_neg h]
theorem ab.setW_w {a:Nat}{w:Int}(ha:a<N.na) (b:Nat):(N.setW a w).w b=if b=a then w else N.w b:=by
 have hn:=(ab.setW_shp (N:=N) a w).na
 unfold ab.w
 rw[hn]
 by_cases h:b=a
 ·subst h
  rw[if_pos ha,if_pos rfl]
  unfold ab.na at ha
  simp[ab.setW,ab.arc,List.getElem?_set,ha]
 ·rw[if_neg h]
  have:(N.setW a w).arc b=N.arc b:=by
   have h':¬a=b:=λe=>h e.symm
   simp[ab.setW,ab.arc,List.getElem?_set,h']
  rw[this]
theorem ab.bend_shp (t i o:Nat) (c:Int):Shp N (N.bend t i o c):=by
 refine⟨rfl,rfl,?_⟩
 apply List.ext_getElem?
 intro j
 unfold ab.bend
 simp only[List.getElem?_map,List.getElem?_set]
 by_cases h:t=j
 ·subst h
  rw[if_pos rfl]
  by_cases hl:t<N.ts.length
  ·rw[if_pos hl]
   simp[ab.tb,uI,List.getElem?_eq_getElem hl]
  ·rw[if_neg hl,List.getElem?_eq_none (by omega)]
 ·rw[if_neg h]
theorem ab.do1_shp (x:Chg):Shp N (N.do1 x):=by
 unfold ab.do1
 split
 ·exact ab.setW_shp _ _
 ·exact ab.bend_shp _ _ _ _
theorem ab.doL_shp:∀(l:List Chg){N:ab},Shp N (N.doL l)
 | [],N=>Shp.refl N
 | x :: l,N=>(ab.do1_shp x).trans (ab.doL_shp l (N:=N.do1 x))
theorem ab.doL_snoc (l:List Chg) (x:Chg):N.doL (l ++ [x])=(N.doL l).do1 x:=by simp[ab.doL,List.foldl_append]
theorem ri {α:Type}{l:List α}{i:Nat}{x y:α}(h:y∈l.set i x):y=x\/y∈l:=by
 rcases List.mem_or_eq_of_mem_set h with h | h
 ·exact .inr h
 ·exact .inl h
theorem pR {α β:Type}{f:α->β}{q:β->Bool}:∀(l m:List α),l.map f=m.map f->l.countP (λx=>q (f x))=m.countP λx=>q (f x):=λl m h=>by
 have:∀l:List α,l.countP (λx=>q (f x))=(l.map f).countP q:=λl=>by rw[List.countP_map];rfl
 rw[this,this,h]
theorem Shp.ok (S:Shp N M) (hok:N.Ok) (hw:∀x∈M.xa,aL x.2.2=true) (ht:∀t∈M.ts,cg t.1 t.2.1 t.2.2):M.Ok:=by
 have hl:M.xa.length=N.xa.length:=S.na
 have hcT:∀i:Int,M.xa.countP (λa=>de a == i)=N.xa.countP λa=>de a == i:=λi=>pR (f:=λx:Tri=>(x.1,x.2.1)) (q:=λy=>y.2 == i) _ _ S.xa
 have hcF:∀i:Int,M.xa.countP (λa=>gH a == i)=N.xa.countP λa=>gH a == i:=λi=>pR (f:=λx:Tri=>(x.1,x.2.1)) (q:=λy=>y.1 == i) _ _ S.xa
 refine⟨by rw[S.vs];exact hok.nv,by rw[hl];exact hok.na,by rw[S.nt];exact hok.nt,ht,λv hv=>by rw[S.nt];rw[S.vs]at hv;exact hok.verts_ v hv,λa ha=>?_,λi v t hv htt=>?_⟩
 ·obtain⟨j,hj⟩:=List.getElem?_of_mem ha
  have h2:=S.two j
  rw[hj]at h2
  cases hn:N.xa[j]? with
  | none=>rw[hn]at h2;cases h2
  | some b=>
   rw[hn]at h2
   simp at h2
   have:=hok.arcs_ b (List.mem_of_getElem? hn)
   rw[S.vs,h2.1,h2.2]
   exact⟨this.1,this.2.1,hw a ha⟩
 ·rw[S.vs]at hv
  have h2:(M.ts[v.2.2.toNat]?).map (λt=>(t.1,t.2.1))=(N.ts[v.2.2.toNat]?).map λt=>(t.1,t.2.1):=by
   rw[<-List.getElem?_map,<-List.getElem?_map,S.ts]
  rw[htt]at h2
  cases hn:N.ts[v.2.2.toNat]? with
  | none=>rw[hn]at h2;cases h2
  | some b=>
   rw[hn]at h2
   simp at h2
   have:=hok.deg i v b hv hn
   rw[hcT,hcF,h2.1,h2.2]
   exact this
theorem ab.setW_ok (hok:N.Ok){a:Nat}{w:Int}(hw:aL w=true):(N.setW a w).Ok:=(ab.setW_shp a w).ok hok (λx hx=>by
 rcases ri hx with rfl | h
 ·exact hw
 ·exact(hok.arcs_ x h).2.2) hok.types_
theorem ab.tb_ok (hok:N.Ok){t:Nat}(ht:t<N.ts.length):cg (N.tb t).1 (N.tb t).2.1 (N.tb t).2.2:=by
 have h1:N.ts[t]? = some N.ts[t]:=List.getElem?_eq_getElem ht
 have:N.tb t=N.ts[t]:=by simp[ab.tb,h1]
 rw[this]
 exact hok.types_ _ (List.getElem_mem ht)
theorem ab.bend_ok (hok:N.Ok){t i o:Nat}{c:Int}(ht:t<N.ts.length) (hc:aL c=true):(N.bend t i o c).Ok:=(ab.bend_shp t i o c).ok hok (λx hx=>(hok.arcs_ x hx).2.2) (λx hx=>by
 rcases ri hx with rfl | h
 ·have:=ab.tb_ok hok ht
  refine⟨this.ins_,this.outs_,by simpa[uI]using this.len,λy hy=>?_⟩
  rcases ri hy with rfl | h
  ·exact hc
  ·exact this.cost y h
 ·exact hok.types_ x h)
theorem dJ.do1 (hok:N.Ok){x:Chg}(h:dJ N x):(N.do1 x).Ok:=by
 unfold ab.do1
 rcases h.is with⟨e1,-⟩ | ⟨e1,ht,-⟩
 ·rw[if_pos e1];exact ab.setW_ok hok h.w
 ·rw[if_neg (by omega)];exact ab.bend_ok hok (by omega) h.w
theorem Shp.tb (S:Shp N M) (t:Nat):(M.tb t).1=(N.tb t).1/\(M.tb t).2.1=(N.tb t).2.1:=by
 have h2:(M.ts[t]?).map (λt=>(t.1,t.2.1))=(N.ts[t]?).map λt=>(t.1,t.2.1):=by
  rw[<-List.getElem?_map,<-List.getElem?_map,S.ts]
 unfold ab.tb
 cases h1:M.ts[t]? <;>cases h3:N.ts[t]? <;>rw[h1,h3]at h2 <;>simp at h2 <;>simp[h2]
theorem dJ.shp (S:Shp N M){x:Chg}(h:dJ N x):dJ M x:=by
 refine⟨h.w,?_⟩
 rcases h.is with⟨e1,e2,e3,e4⟩ | ⟨e1,⟨a1,a2⟩,a3,a4⟩
 ·exact .inl ⟨e1,e2,by rw[S.na];exact e3,e4⟩
 ·refine .inr ⟨e1,⟨a1,by rw[S.nt];exact a2⟩,?_,?_⟩
  ·rw[(S.tb _).1];exact a3
  ·rw[(S.tb _).2];exact a4
theorem ab.doL_ok (hok:N.Ok):∀(l:List Chg),(∀x∈l,dJ N x)->(N.doL l).Ok:=by
 suffices ∀(l:List Chg) (M:ab),Shp N M->M.Ok->(∀x∈l,dJ N x)->(M.doL l).Ok from λl h=>this l N (Shp.refl N) hok h
 intro l
 induction l with
 | nil=>exact λM _ h _=>h
 | cons x l ih=>
  intro M S hM h
  exact ih (M.do1 x) (S.trans (ab.do1_shp x)) (((h x (by simp)).shp S).do1 hM) λy hy=>h y (List.mem_cons_of_mem _ hy)
def ab.ty (N:ab) (v:Nat):Int:=((N.vs[v]?).getD (0,0,0)).2.2
def Tch (N:ab) (p:List (List Int)) (k c:Nat) (x:Chg):Prop:=
 (x.1=1/\N.w x.2.1.toNat≠x.2.2.2.2/\cel p k (N.fr x.2.1.toNat)=c/\cel p k (N.to x.2.1.toNat)=c)\/
 (x.1=2/\df (N.tb x.2.1.toNat) x.2.2.1.toNat x.2.2.2.1.toNat≠x.2.2.2.2/\∃v,v<N.nv/\N.ty v=x.2.1/\cel p k v=c)
theorem zh {α:Type}{l:List α}{i:Nat}{x:α}(h:l[i]? = some x):l.set i x=l:=by
 apply List.ext_getElem?
 intro j
 rw[List.getElem?_set]
 by_cases e:i=j
 ·subst e
  rw[if_pos rfl,if_pos (List.getElem?_eq_some_iff.1 h).1,h]
 ·rw[if_neg e]
theorem xz {t:Tab}(ht:cg t.1 t.2.1 t.2.2){i o:Nat}(hi:(i:Int)<t.1) (ho:(o:Int)<t.2.1):t.2.2[i*t.2.1.toNat+o]? = some (df t i o):=by
 obtain⟨a,b,l⟩:=t
 have h1:=ht.len
 have h2:=ht.outs_
 have h3:=ht.ins_
 obtain⟨m,rfl⟩:∃m:Nat,a=m:=⟨a.toNat,by simp at h3;omega⟩
 obtain⟨n,rfl⟩:∃n:Nat,b=n:=⟨b.toNat,by simp at h2;omega⟩
 simp only at h1 hi ho⊢
 have h5:l.length=m*n:=by exact_mod_cast h1
 have h4:i*n+o<l.length:=by rw[h5];exact lB (by omega) (by omega)
 unfold df
 rw[if_pos ⟨hi,ho⟩]
 simp[List.getElem?_eq_getElem h4]
theorem ab.tab_tb (v:Nat):N.tab v=N.tb (N.ty v).toNat:=rfl
theorem ab.bend_tb {t i o:Nat}{c:Int}(s:Nat) (ht:t<N.ts.length):(N.bend t i o c).tb s=if s=t then uI (N.tb t) i o c else N.tb s:=by
 unfold ab.bend
 by_cases h:s=t
 ·subst h
  rw[if_pos rfl]
  show((N.ts.set s _)[s]?).getD _=_
  rw[List.getElem?_set,if_pos rfl,if_pos ht]
  rfl
 ·rw[if_neg h]
  have h':¬t=s:=λe=>h e.symm
  show((N.ts.set t _)[s]?).getD _=_
  rw[List.getElem?_set,if_neg h']
  rfl
theorem uJ (hok:N.Ok){k c:Nat}:∀(l:List Chg),(∀x∈l,dJ N x)->(∀x∈l,¬Tch N p k c x)->dO N (N.doL l) p k c:=by
 suffices ∀(l:List Chg) (M:ab),Shp N M->dO N M p k c->(∀x∈l,dJ N x)->(∀x∈l,¬Tch N p k c x)->dO N (M.doL l) p k c from λl h1 h2=>this l N (Shp.refl N) ⟨λ_ _ _=>rfl,λ_ _ _=>rfl⟩ h1 h2
 intro l
 induction l with
 | nil=>exact λM _ h _ _=>h
 | cons x l ih=>
  intro M S I h1 h2
  refine ih (M.do1 x) (S.trans (ab.do1_shp x)) ?_ (λy hy=>h1 y (List.mem_cons_of_mem _ hy)) λy hy=>h2 y (List.mem_cons_of_mem _ hy)
  have hx:=h1 x (by simp)
  have hn:=h2 x (by simp)
  unfold ab.do1
  rcases hx.is with⟨e1,e2,e3,e4,e5⟩ | ⟨e1,⟨a1,a2⟩,a3,a4⟩
  ·rw[if_pos e1]
   refine⟨λa ha hw=>?_,λv hv hc=>I.tab v hv hc⟩
   rw[ab.setW_w (by rw[S.na];omega)]
   by_cases h:a=x.2.1.toNat
   ·rw[if_pos h,h]
    exact(Classical.byContradiction λhne=>hn (.inl ⟨e1,hne,h ▸ hw.1,h ▸ hw.2⟩)).symm
   ·rw[if_neg h];exact I.w a ha hw
  ·rw[if_neg (by omega)]
   refine⟨λa ha hw=>?_,λv hv hc=>?_⟩
   ·show M.w a=N.w a
    exact I.w a ha hw
   ·have hty:(M.bend x.2.1.toNat x.2.2.1.toNat x.2.2.2.1.toNat x.2.2.2.2).ty v=N.ty v:=by
     show((M.vs[v]?).getD _).2.2=_
     rw[S.vs];rfl
    have hvy:0<=N.ty v:=by
     have h1:N.vs[v]? = some (N.vs[v]'hv):=List.getElem?_eq_getElem hv
     have:=(hok.verts_ _ (List.mem_of_getElem? h1)).2.2
     simp only[ab.ty,h1,Option.getD_some]
     exact this.1
    rw[ab.tab_tb,hty,ab.bend_tb _ (by rw[S.nt];omega)]
    have hI:=I.tab v hv hc
    have htM:M.ty v=N.ty v:=by unfold ab.ty;rw[S.vs]
    rw[ab.tab_tb,ab.tab_tb,htM]at hI
    by_cases h:(N.ty v).toNat=x.2.1.toNat
    ·rw[if_pos h,<-h,hI]
     have h6:df (N.tb x.2.1.toNat) x.2.2.1.toNat x.2.2.2.1.toNat=x.2.2.2.2:=Classical.byContradiction λhne=>hn (.inr ⟨e1,hne,v,hv,by omega,hc⟩)
     have h7:=xz (ab.tb_ok hok (t:=x.2.1.toNat) (by omega)) (i:=x.2.2.1.toNat) (o:=x.2.2.2.1.toNat) (by omega) (by omega)
     rw[h6]at h7
     unfold uI
     rw[h,zh h7,ab.tab_tb,h]
    ·rw[if_neg h,hI];rfl
end
end
section
open Go Go.RowKit
theorem iG {xa:List Tri}{n a:Nat}{q:Bool×Nat}:(a:Int)∈ends xa n q↔a<n/\hit xa q.1 q.2 a=true:=by
 unfold ends
 rw[List.mem_map]
 constructor
 ·rintro⟨j,h1,h2⟩
  obtain rfl:j=a:=by omega
  have:=List.mem_filter.1 h1
  exact⟨List.mem_range.1 this.1,this.2⟩
 ·rintro⟨h1,h2⟩
  exact⟨a,List.mem_filter.2 ⟨List.mem_range.2 h1,h2⟩,rfl⟩
theorem nI {xa:List Tri}{q:Bool×Nat}{a:Nat}(hh:hit xa q.1 q.2 a=true):∀{n:Nat},a<n->(ends xa n q).idxOf (a:Int)=(ends xa a q).length
 | 0,h=>by omega
 | n+1,h=>by
  rw[fC]
  by_cases e:a=n
  ·subst e
   rw[if_pos hh,List.idxOf_append,if_neg (λhm=>by have:=(iG.1 hm).1;omega)]
   simp
  ·have ih:=nI hh (n:=n) (by omega)
   have hm:(a:Int)∈ends xa n q:=iG.2 ⟨by omega,hh⟩
   split
   ·rw[List.idxOf_append,if_pos hm,ih]
   ·exact ih
section
variable {N:ab}{a b:Nat}
theorem zi (ha:a<N.na) (hok:N.Ok):hit N.xa false (N.to a) a=true:=by
 have h1:=ab.arc_get ha
 have h2:=(ab.to_lt hok ha).2
 unfold hit
 rw[h1]
 simp[h2]
theorem zj (ha:a<N.na) (hok:N.Ok):hit N.xa true (N.fr a) a=true:=by
 have h1:=ab.arc_get ha
 have h2:=(ab.fr_lt hok ha).2
 unfold hit
 rw[h1]
 simp[h2]
theorem Bd (hok:N.Ok) (ha:a<N.na) (hb:b<N.na) (hab:N.to a=N.fr b):N.turn a b=df (N.tab (N.to a)) ((ends N.xa N.na (false,N.to a)).idxOf (a:Int)) ((ends N.xa N.na (true,N.to a)).idxOf (b:Int)):=by
 unfold ab.turn
 rw[if_pos ⟨ha,hb,hab⟩,nI (q:=(false,N.to a)) (zi ha hok) ha,nI (q:=(true,N.to a)) (by rw[hab];exact zj hb hok) hb]
 unfold ab.inPl ab.outPl
 rw[hab]
end
end
section
open Go Go.RowKit
inductive bp (e tr:Nat->Nat->Option Nat) (P:Nat->Prop) (t:Nat):Nat->Nat->List Nat->Prop
 | last {a y:Nat}:tr a t=some y->bp e tr P t a y [t]
 | on {a m x c:Nat}{l:List Nat}:e a m=some x->P m->bp e tr P t m c l->bp e tr P t a (x+c) (m :: l)
theorem zk {N:ab}{a m x:Nat}(h:N.e a m=some x):m<N.na:=(ab.turn_in (ab.e_some.1 h).1).2.1
theorem bp.mono {N:ab}{P P':Nat->Prop}{t a c:Nat}{l:List Nat}(hP:∀x,x<N.na->P x->P' x) (h:bp N.e N.tr P t a c l):bp N.e N.tr P' t a c l:=by
 induction h with
 | last h=>exact .last h
 | on h1 h2 _ ih=>exact .on h1 (hP _ (zk h1) h2) ih
theorem bp.glue {N:ab}{P P':Nat->Prop}{t m a x c:Nat}{l1 l2:List Nat}(h:bp N.e N.tr P' m a x l1) (hP:∀x,x<N.na->P' x->P x) (hm:P m) (hw:N.w m<INF) (h2:bp N.e N.tr P t m c l2):bp N.e N.tr P t a (x+(N.w m).toNat+c) (l1 ++ l2):=by
 induction h with
 | @last a y h=>
  refine .on ?_ hm h2
  obtain⟨h3,rfl⟩:=ab.tr_some.1 h
  exact ab.e_some.2 ⟨h3,hw,rfl⟩
 | @on a m' x c' l h1 h3 _ ih=>
  have:x+c' + (N.w m).toNat+c=x+(c' + (N.w m).toNat+c):=by omega
  rw[this]
  exact .on h1 (hP _ (zk h1) h3) ih
theorem bp.len {e tr:Nat->Nat->Option Nat}{P:Nat->Prop}{t a c:Nat}{l:List Nat}(h:bp e tr P t a c l):0<l.length:=by cases h <;>simp
theorem bp.end_ {e tr:Nat->Nat->Option Nat}{P:Nat->Prop}{t a c:Nat}{l:List Nat}(h:bp e tr P t a c l):∃l',l=l' ++ [t]:=by
 induction h with
 | last _=>exact⟨[],rfl⟩
 | @on a m x c l _ _ _ ih=>obtain⟨l',rfl⟩:=ih;exact⟨m :: l',rfl⟩
theorem bp.within {e tr:Nat->Nat->Option Nat}{P:Nat->Prop}{t a c:Nat}{l:List Nat}(h:bp e tr P t a c l):∃d c' y,an e P a d c'/\tr d t=some y/\c=c' + y:=by
 induction h with
 | @last a y h=>exact⟨a,0,y,.here,h,by omega⟩
 | @on a m x c l h1 h2 _ ih=>
  obtain⟨d,c',y,g1,g2,rfl⟩:=ih
  exact⟨d,x+c',y,g1.pre h1 h2,g2,by omega⟩
open Classical in
noncomputable def lvE (N:ab) (p:List (List Int)) (k c:Nat) (ent:Nat->Nat->Nat->Int) (a m:Nat):Option Nat:=if k=1 then(if N.win p k c m then N.e a m else none) else kEf N p k c ent a m
noncomputable def lvO (N:ab) (p:List (List Int)) (k c:Nat) (ent:Nat->Nat->Nat->Int) (a b:Nat):Option Nat:=if k=1 then N.tr a b else kOf N p k c ent a b
def opE (kE kO:Nat->Nat->Option Nat) (t a b:Nat):Option Nat:=if b=t then kO a t else kE a b
section
variable {kE kO:Nat->Nat->Option Nat}{s t b c:Nat}
theorem Be (hst:s≠t) (h1:∀b,opE kE kO t t b=none) (h:be (opE kE kO t) s b c):(b≠t->be kE s b c)/\(b=t->∃q c' y,be kE s q c'/\kO q t=some y/\c=c' + y):=by
 induction h with
 | here=>exact⟨λ_=>.here,λe=>absurd e hst⟩
 | @on a b c x hg he ih=>
  have ha:a≠t:=λe=>by rw[e,h1]at he;cases he
  have g:=ih.1 ha
  unfold opE at he
  refine⟨λhb=>?_,λhb=>?_⟩
  ·rw[if_neg hb]at he;exact .on g he
  ·rw[if_pos hb]at he;exact⟨a,c,x,g,he,rfl⟩
theorem Bg (h2:∀a,kE a t=none) (h:be kE s b c):be (opE kE kO t) s b c:=by
 induction h with
 | here=>exact .here
 | @on a b c x hg he ih=>
  have hb:b≠t:=λe=>by rw[e,h2]at he;cases he
  exact .on ih (by unfold opE;rw[if_neg hb];exact he)
end
section
variable {N:ab}{p:List (List Int)}{k c:Nat}{ent:Nat->Nat->Nat->Int}{s t v:Nat}
theorem pK.below (he:pK N p ent) (hk:2<=k) (hkl:k<=p.length):j0 N p k c ent:=λa b ha hb=>by
 have h:=ab.mem_outs.1 hb
 exact he (k - 1) a b (by omega) (by omega) ha.1 h.1 ha.2.2 h.2
theorem j8 (hok:N.Ok) (hp:ax N.nv p) (hk:2<=k) (hkl:k<=p.length){a m x:Nat}(h:kEf N p k c ent a m=some x):N.kidIn p k c a/\N.win p k c m/\m<N.na/\N.inA p (k - 1) (cel p (k - 1) (N.to a)) a/\N.outA p (k - 1) (cel p (k - 1) (N.to a)) m/\ent (k - 1) a m<INF/\N.w m<INF/\x=(ent (k - 1) a m).toNat+(N.w m).toNat:=by
 obtain⟨h1,h2,h3,h4,h5,h6⟩:=dH.1 h
 have hm:=ab.mem_outs.1 h2
 have hfm:cel p k (N.fr m)=c:=by rw[bW hp (l:=k - 1) (by omega) (by omega) hkl (ab.fr_lt hok hm.1).1 (ab.to_lt hok h1.1).1 hm.2.1];exact h1.2.1
 refine⟨h1,⟨hfm,?_⟩,hm.1,h1.2.2,hm.2,h4,h5,h6⟩
 by_cases hc:cel p k (N.to m)=c
 ·exact hc
 ·exact absurd (ab.mem_outs.2 ⟨hm.1,hfm,hc⟩) h3
theorem zm (hok:N.Ok) (hp:ax N.nv p) (hk:2<=k) (hkl:k<=p.length){a:Nat}(ha:a<N.na){d:Nat}(hd:N.win p (k - 1) (cel p (k - 1) (N.to a)) d) (hdn:d<N.na):N.win p k (cel p k (N.to a)) d:=
 ⟨bW hp (by omega) (by omega) hkl (ab.fr_lt hok hdn).1 (ab.to_lt hok ha).1 hd.1,bW hp (by omega) (by omega) hkl (ab.to_lt hok hdn).1 (ab.to_lt hok ha).1 hd.2⟩
theorem DK (hok:N.Ok) (ht:N.outA p k c t) (a:Nat):lvE N p k c ent a t=none:=by
 unfold lvE
 by_cases h1:k=1
 ·rw[if_pos h1,if_neg (λh=>ht.2 h.2)]
 ·rw[if_neg h1]
  cases h:kEf N p k c ent a t with
  | none=>rfl
  | some x=>
   obtain⟨g1,g2,g3,-⟩:=dH.1 h
   exact absurd (ab.mem_outs.2 ⟨(ab.mem_outs.1 g2).1,ht⟩) g3
theorem DL (hok:N.Ok) (ht:N.outA p k c t) (b:Nat):opE (lvE N p k c ent) (lvO N p k c ent) t t b=none:=by
 unfold opE
 split
 ·unfold lvO
  split
  ·cases h:N.tr t t with
   | none=>rfl
   | some x=>exact absurd (by rw[<-ab.tr_ends h];exact ht.1) ht.2
  ·cases h:kOf N p k c ent t t with
   | none=>rfl
   | some x=>exact absurd (dI.1 h).1.2.1 ht.2
 ·unfold lvE
  split
  ·split
   ·rename_i hw
    cases h:N.e t b with
    | none=>rfl
    | some x=>exact absurd (by rw[<-ab.e_ends h];exact hw.1) ht.2
   ·rfl
  ·cases h:kEf N p k c ent t b with
   | none=>rfl
   | some x=>exact absurd (dH.1 h).1.2.1 ht.2
theorem zn {a d x:Nat}(h:be (lvE N p 1 c ent) a d x):an N.e (N.win p 1 c) a d x:=by
 induction h with
 | here=>exact .here
 | @on a b y z hg he ih=>
  unfold lvE at he
  rw[if_pos rfl]at he
  split at he
  ·rename_i hw;exact .on ih he hw
  ·cases he
theorem zp {a d x:Nat}(h:an N.e (N.win p 1 c) a d x):be (lvE N p 1 c ent) a d x:=by
 induction h with
 | here=>exact .here
 | on hg he hw ih=>exact .on ih (by unfold lvE;rw[if_pos rfl,if_pos hw];exact he)
theorem Bh (hok:N.Ok) (hp:ax N.nv p) (he:pK N p ent) (h1:1<=k) (hkl:k<=p.length) (hsn:s<N.na) (hs:N.inA p k c s) (ht:N.outA p k c t) (hst:s≠t)
  (h:hZ aM (opE (lvE N p k c ent) (lvO N p k c ent) t) s t v):fE N (N.win p k c) s t (v:Int):=by
 have hle:=h.le
 have hv2:∀q x y,be (lvE N p k c ent) s q x->lvO N p k c ent q t=some y->v<=x+y:=λq x y hg hy=>
  h.least _ (.on (Bg (λa=>DK hok ht a) hg) (by unfold opE;rw[if_pos rfl];exact hy))
 have hv3:v<aM->∃q x y,be (lvE N p k c ent) s q x/\lvO N p k c ent q t=some y/\v=x+y:=λhlt=>
  (Be hst (λb=>DL hok ht b) (h.way hlt)).2 rfl
 by_cases hk:k=1
 ·subst hk
  have eO:∀q,lvO N p 1 c ent q t=N.tr q t:=λq=>by unfold lvO;rw[if_pos rfl]
  refine⟨by unfold INF aM at *;omega,λd x y hw hy=>?_,λhlt=>?_⟩
  ·have:=hv2 d x y (zp hw) ((eO d).trans hy)
   omega
  ·obtain⟨d,x,y,g1,g2,g3⟩:=hv3 (by unfold INF aM at *;omega)
   exact⟨d,x,y,zn g1,(eO d).symm.trans g2,by omega⟩
 ·have eE:lvE N p k c ent=kEf N p k c ent:=by funext a m;unfold lvE;rw[if_neg hk]
  have eO:∀q,lvO N p k c ent q t=kOf N p k c ent q t:=λq=>by unfold lvO;rw[if_neg hk]
  have KL:=sY (c:=c) hok hp (k:=k) (by omega) hkl (he.below (by omega) hkl)
  have hlaw:=KL.law (a:=s) (b:=t) (v:=v) hs.1 (λe=>hs.2 ((bW hp (l:=k - 1) (by omega) (by omega) hkl (ab.fr_lt hok hsn).1 (ab.to_lt hok hsn).1 e).trans hs.1)) (λhw=>ht.2 hw.2) hle
   (λq x y hg hy=>hv2 q x y (by rw[eE];exact hg) ((eO q).trans hy)) (λhlt=>by
    obtain⟨q,x,y,g1,g2,g3⟩:=hv3 hlt
    exact⟨q,x,y,by rw[<-eE];exact g1,(eO q).symm.trans g2,g3⟩)
  refine⟨by unfold INF aM at *;omega,λd x y hw hy=>?_,λhlt=>?_⟩
  ·have:=hlaw.1 d x y hw hy
   omega
  ·obtain⟨d,x,y,g1,g2,g3⟩:=hlaw.2 (by unfold INF aM at *;omega)
   exact⟨d,x,y,g1,g2,by omega⟩
theorem Bi (hok:N.Ok) (hp:ax N.nv p) (hk:2<=k) (hkl:k<=p.length){a m x c2:Nat}{l1 l2:List Nat}(h:kEf N p k c ent a m=some x) (h1:bp N.e N.tr (N.win p (k - 1) (cel p (k - 1) (N.to a))) m a (ent (k - 1) a m).toNat l1)
  (h2:bp N.e N.tr (N.win p k c) t m c2 l2):bp N.e N.tr (N.win p k c) t a (x+c2) (l1 ++ l2):=by
 obtain⟨g1,g2,g3,-,-,-,g4,rfl⟩:=j8 hok hp hk hkl h
 refine h1.glue (λd hd hw=>?_) g2 g4 h2
 have:=zm hok hp hk hkl g1.1 hw hd
 rw[g1.2.1]at this
 exact this
theorem xA (hok:N.Ok) (hp:ax N.nv p) (hk:2<=k) (hkl:k<=p.length){a y:Nat}{l1:List Nat}(h:kOf N p k c ent a t=some y) (h1:bp N.e N.tr (N.win p (k - 1) (cel p (k - 1) (N.to a))) t a (ent (k - 1) a t).toNat l1) :
  bp N.e N.tr (N.win p k c) t a y l1:=by
 obtain⟨g1,g2,g3,g4,rfl⟩:=dI.1 h
 refine h1.mono λd hd hw=>?_
 have:=zm hok hp hk hkl g1.1 hw hd
 rw[g1.2.1]at this
 exact this
theorem zq {l:List Nat}{a x:Nat}(h:bp (lvE N p 1 c ent) (lvO N p 1 c ent) (λ_=>True) t a x l):bp N.e N.tr (N.win p 1 c) t a x l:=by
 induction h with
 | last h=>exact .last (by unfold lvO at h;rw[if_pos rfl]at h;exact h)
 | on h1 _ _ ih=>
  unfold lvE at h1
  rw[if_pos rfl]at h1
  split at h1
  ·rename_i hw;exact .on h1 hw ih
  ·cases h1
end
end
section
open Go Go.RowKit
def lQ (s z a:Nat):Nat:=if a=z then s else a
def inE (e:Nat->Nat->Option Nat) (P:Nat->Bool) (s z a b:Nat):Option Nat:=if P b=true then e (lQ s z a) b else none
section
variable {I:Nat}{e tr:Nat->Nat->Option Nat}{P:Nat->Bool}{s z t:Nat}
theorem EM {a b x:Nat}:inE e P s z a b=some x↔P b=true/\e (lQ s z a) b=some x:=by
 unfold inE
 by_cases h:P b=true
 ·rw[if_pos h];exact⟨λg=>⟨h,g⟩,λg=>g.2⟩
 ·rw[if_neg h];exact⟨λg=>by(cases g),λg=>absurd g.1 h⟩
theorem zr (hz:∀a,e a z=none){b c:Nat}(h:be (inE e P s z) z b c):an e (λx=>P x=true) s (lQ s z b) c:=by
 induction h with
 | here=>unfold lQ;rw[if_pos rfl];exact .here
 | @on a b c x hg he ih=>
  obtain⟨h1,h2⟩:=EM.1 he
  have hb:b≠z:=λe'=>by rw[e',hz]at h2;cases h2
  have:lQ s z b=b:=by unfold lQ;rw[if_neg hb]
  rw[this]
  exact .on ih h2 h1
theorem uK (hz:∀a,e a z=none){b c:Nat}(h:an e (λx=>P x=true) s b c):∃b',lQ s z b' = b/\be (inE e P s z) z b' c:=by
 induction h with
 | here=>exact⟨z,by unfold lQ;rw[if_pos rfl],.here⟩
 | @on b d c x hw he hp ih=>
  obtain⟨b',h1,h2⟩:=ih
  have hb:d≠z:=λe'=>by rw[e',hz]at he;cases he
  exact⟨d,by unfold lQ;rw[if_neg hb],.on h2 (EM.2 ⟨hp,by rw[h1];exact he⟩)⟩
structure zt (I:Nat) (tr:Nat->Nat->Option Nat) (s z t:Nat) (done:Nat->Option Nat) (v:Nat):Prop where
 le:v<=I
 least:∀a c y,done a=some c->tr (lQ s z a) t=some y->v<=c+y
 way:v<I->∃a c y,done a=some c/\tr (lQ s z a) t=some y/\v=c+y
theorem zt.law {done w:Nat->Option Nat}{v:Nat}(hz:∀a,e a z=none) (B:zt I tr s z t done v) (D:Dij I (inE e P s z) z done (gG I w)) (hq:∀b c,w b=some c->v<=c) :
  (∀a c y,an e (λx=>P x=true) s a c->tr a t=some y->v<=c+y)/\(v<I->∃a c y,an e (λx=>P x=true) s a c/\tr a t=some y/\v=c+y):=by
 have hle:=B.le
 refine⟨λa c y hw hy=>?_,λhv=>?_⟩
 ·obtain⟨b,rfl,hg⟩:=uK (P:=P) (s:=s) hz hw
  cases hd:done b with
  | some cb=>
   have h1:=(D.fin b cb hd).2.2 c hg
   have h2:=B.least b cb y hd hy
   omega
  | none=>
   rcases Nat.lt_or_ge c I with hc | hc
   ·obtain⟨b',c',h1,h2⟩:=D.cut hg hc hd
    have:=hq b' c' (bL.1 h1).1
    omega
   ·omega
 ·obtain⟨a,c,y,h1,h2,h3⟩:=B.way hv
  exact⟨_,c,y,zr hz (D.fin a c h1).2.1,h2,h3⟩
theorem zt.round {done:Nat->Option Nat}{v k c:Nat}(B:zt I tr s z t done v) (hd:done k=none){v':Nat}(hv:v' = match tr (lQ s z k) t with | some y=>min v (min (c+y) I) | none=>v):zt I tr s z t (upd done k (some c)) v':=by
 have hle:=B.le
 have old:∀a ca,done a=some ca->upd done k (some c) a=some ca:=λa ca ha=>by
  have:a≠k:=λe=>by rw[e,hd]at ha;cases ha
  simp[upd,this,ha]
 cases hk:tr (lQ s z k) t with
 | none=>
  rw[hk]at hv
  subst hv
  refine⟨hle,λa ca y ha hy=>?_,λhv=>?_⟩
  ·by_cases e:a=k
   ·rw[e,hk]at hy;cases hy
   ·simp only[upd,if_neg e]at ha
    exact B.least a ca y ha hy
  ·obtain⟨a,ca,y,h1,h2,h3⟩:=B.way hv
   exact⟨a,ca,y,old a ca h1,h2,h3⟩
 | some y0=>
  rw[hk]at hv
  simp only at hv
  refine⟨by omega,λa ca y ha hy=>?_,λhv'=>?_⟩
  ·by_cases e:a=k
   ·rw[e]at ha hy
    rw[hk]at hy
    obtain rfl:=Option.some.inj hy
    simp only[upd,if_pos]at ha
    obtain rfl:=Option.some.inj ha
    omega
   ·simp only[upd,if_neg e]at ha
    have:=B.least a ca y ha hy
    omega
  ·rcases Nat.lt_or_ge (c+y0) v with h | h
   ·exact⟨k,c,y0,by simp[upd],hk,by omega⟩
   ·obtain⟨a,ca,y,h1,h2,h3⟩:=B.way (by omega)
    exact⟨a,ca,y,old a ca h1,h2,by omega⟩
end
def Cf (l:List Int):List Chg:=l.map λa=>(1,a,0,0,INF)
structure nJ (N M:ab) (l:List Int):Prop where
 shp:Shp N M
 turn:∀a b,M.turn a b=N.turn a b
 w:∀b,M.w b=if(b:Int)∈l then INF else N.w b
section
variable {N M:ab}{l l2:List Int}{p:List (List Int)}{k s t:Nat}
theorem nJ.nil (N:ab):nJ N N []:=⟨Shp.refl N,λ_ _=>rfl,λb=>by simp⟩
theorem ab.setW_turn (a:Nat) (w:Int) (d b:Nat):(N.setW a w).turn d b=N.turn d b:=by
 have S:=ab.setW_shp (N:=N) a w
 unfold ab.turn
 rw[S.na,S.to,S.fr,S.inPl,S.outPl]
 rfl
theorem nJ.snoc (S:nJ N M l){a:Nat}(ha:a<N.na):nJ N (M.do1 (1,(a:Int),0,0,INF)) (l ++ [(a:Int)]):=by
 have e:M.do1 (1,(a:Int),0,0,INF)=M.setW a INF:=rfl
 rw[e]
 refine⟨S.shp.trans (ab.setW_shp _ _),λd b=>(ab.setW_turn _ _ d b).trans (S.turn d b),λb=>?_⟩
 rw[ab.setW_w (by rw[S.shp.na];exact ha),S.w b]
 by_cases h:b=a
 ·rw[if_pos h,if_pos (by simp[h])]
 ·rw[if_neg h]
  have:(b:Int)≠a:=by omega
  by_cases h2:(b:Int)∈l
  ·rw[if_pos h2,if_pos (by simp[h2])]
  ·rw[if_neg h2,if_neg (by simp[h2,this])]
theorem nJ.doL:∀(l2:List Int){M:ab}{l:List Int},nJ N M l->(∀a∈l2,∃b:Nat,b<N.na/\a=b)->nJ N (M.doL (Cf l2)) (l ++ l2)
 | [],M,l,S,_=>by simpa[Cf,ab.doL]using S
 | a :: l2,M,l,S,h=>by
  obtain⟨b,hb,rfl⟩:=h a (by simp)
  have:=nJ.doL l2 (S.snoc hb) λx hx=>h x (List.mem_cons_of_mem _ hx)
  rw[List.append_assoc]at this
  exact this
def ab.crs (N:ab) (p:List (List Int)) (k:Nat) (a:Nat):Bool:=cel p k (N.fr a) != cel p k (N.to a)
def ab.crsL (N:ab) (p:List (List Int)) (k n:Nat):List Int:=((List.range n).filter (N.crs p k)).map λa:Nat=>(a:Int)
theorem ab.mem_crsL {n a:Nat}:(a:Int)∈N.crsL p k n↔a<n/\N.crs p k a=true:=by
 unfold ab.crsL
 rw[List.mem_map]
 constructor
 ·rintro⟨b,hb,e⟩
  obtain rfl:b=a:=by omega
  simpa using hb
 ·rintro⟨h1,h2⟩
  exact⟨a,by simp[h1,h2],rfl⟩
theorem nJ.e (S:nJ N M (N.crsL p k N.na)):M.e=Cd N.e N.fr N.to (cel p k):=by
 funext a b
 have htr:M.tr a b=N.tr a b:=by unfold ab.tr;rw[S.turn]
 unfold Cd
 cases h:N.tr a b with
 | none=>
  have h1:N.e a b=none:=by unfold ab.e eT;rw[h]
  have h2:M.e a b=none:=by unfold ab.e eT;rw[htr,h]
  rw[h1,h2];simp
 | some x=>
  obtain⟨hb1,hb2,-⟩:=ab.turn_in (ab.tr_some.1 h).1
  have hm:=ab.mem_crsL (N:=N) (p:=p) (k:=k) (n:=N.na) (a:=b)
  have hw:=S.w b
  by_cases hc:cel p k (N.fr b)=cel p k (N.to b)
  ·rw[if_neg (λg=>by have:=(hm.1 g).2;simp[ab.crs,hc]at this)]at hw
   rw[if_pos hc]
   unfold ab.e eT ab.ok ab.wn
   rw[htr,h,hw]
  ·rw[if_pos (hm.2 ⟨hb2,by simpa[ab.crs]using hc⟩)]at hw
   rw[if_neg hc]
   unfold ab.e eT ab.ok
   rw[htr,h,hw]
   simp
end
end
section
open Go Go.RowKit
def uL (f:Nat->Bool):Nat->Nat
 | 0=>0
 | n+1=>if uL f n=0 then(if f (n+1)=true then n+1 else 0) else uL f n
theorem pS {f:Nat->Bool}:∀{n:Nat},(∀j,1<=j->j<=n->f j=false)->uL f n=0
 | 0,_=>rfl
 | n+1,h=>by
  unfold uL
  rw[if_pos (pS λj h1 h2=>h j h1 (by omega)),if_neg (by simp[h (n+1) (by omega) (by omega)])]
theorem vT {f:Nat->Bool}{k:Nat}(h1:1<=k) (hk:f k=true) (hb:∀j,1<=j->j<k->f j=false):∀{n:Nat},k<=n->uL f n=k
 | 0,h=>by omega
 | n+1,h=>by
  unfold uL
  by_cases e:k=n+1
  ·subst e
   rw[if_pos (pS λj h1 h2=>hb j h1 (by omega)),if_pos hk]
  ·have:=vT h1 hk hb (n:=n) (by omega)
   rw[this,if_neg (by omega)]
def eK (x:Nat->Nat) (k:Nat):Nat->Nat
 | 0=>0
 | n+1=>eK x k n+(if x n=k then 1 else 0)
theorem tf (x:Nat->Nat):∀n,eK x 1 n+eK x 2 n+eK x 3 n+eK x 4 n+eK x 5 n+eK x 6 n<=n
 | 0=>by simp[eK]
 | n+1=>by
  have ih:=tf x n
  have one:∀v:Nat,(if v=1 then 1 else 0)+(if v=2 then 1 else 0)+(if v=3 then 1 else 0)+(if v=4 then 1 else 0)+(if v=5 then 1 else 0)+(if v=6 then 1 else 0)<=(1:Nat):=λv=>by
   (repeat' split) <;>omega
  have:=one (x n)
  simp only[eK]
  omega
theorem xB {x:Nat->Nat}{k n:Nat}{l:List Nat}(hn:l.Nodup) (h:∀a∈l,a<n/\x a=k):l.length<=eK x k n:=by
 induction n generalizing l with
 | zero=>
  cases l with
  | nil=>exact Nat.le_refl _
  | cons a l=>exact absurd (h a (by simp)).1 (Nat.not_lt_zero _)
 | succ n ih=>
  by_cases hm:n∈l
  ·have h1:=ih (l:=l.erase n) (hn.erase n) (λa ha=>by
    have h2:=(List.Nodup.mem_erase_iff hn).1 ha
    have:=h a h2.2
    have:=h2.1
    exact⟨by omega,by omega⟩)
   rw[List.length_erase_of_mem hm]at h1
   simp only[eK,if_pos (h n hm).2]
   omega
  ·have h1:=ih hn λa ha=>by
    have h2:=h a ha
    have:a≠n:=λe=>hm (e ▸ ha)
    exact⟨by omega,h2.2⟩
   simp only[eK]
   omega
theorem am2 (x y:Nat):4*(x*y)<=(x+y)*(x+y):=by
 rcases Nat.le_total x y with h | h
 ·obtain⟨d,rfl⟩:=Nat.exists_eq_add_of_le h
  simp only[Nat.mul_add,Nat.add_mul]
  have:=Nat.mul_comm d x
  omega
 ·obtain⟨d,rfl⟩:=Nat.exists_eq_add_of_le h
  simp only[Nat.mul_add,Nat.add_mul]
  have:=Nat.mul_comm d y
  omega
theorem am6 {a b c d e f:Nat}(h:a+b+c+d+e+f<=306):a*b*(c*d)*(e*f)<=17596287801:=by
 obtain⟨u,hu⟩:∃u,a+b=u:=⟨_,rfl⟩
 obtain⟨v,hv⟩:∃v,c+d=v:=⟨_,rfl⟩
 obtain⟨w,hw⟩:∃w,e+f=w:=⟨_,rfl⟩
 have h1:=am2 a b
 have h2:=am2 c d
 have h3:=am2 e f
 rw[hu]at h1
 rw[hv]at h2
 rw[hw]at h3
 have h4:=Nat.mul_le_mul (Nat.mul_le_mul h1 h2) h3
 have h5:4*(a*b)*(4*(c*d))*(4*(e*f))=64*(a*b*(c*d)*(e*f)):=by
  rw[show(64:Nat)=4*(4*4) from rfl]
  ac_rfl
 have h6:u*u*(v*v)*(w*w)=u*v*w*(u*v*w):=by ac_rfl
 rw[h5,h6]at h4
 have h7:u*v*w<=1061208:=by
  have g1:=am2 u v
  have g2:=am2 w 102
  have g3:=am2 (u+v) (w+102)
  have g4:(u+v+(w+102))*(u+v+(w+102))<=408*408:=Nat.mul_le_mul (by omega) (by omega)
  have g5:(u+v)*(w+102)<=41616:=by omega
  have g6:=Nat.mul_le_mul g1 g2
  have g7:=Nat.mul_le_mul g5 g5
  have e1:4*(u*v)*(4*(w*102))=1632*(u*v*w):=by
   rw[show(1632:Nat)=4*(4*102) from rfl]
   ac_rfl
  have e2:(u+v)*(u+v)*((w+102)*(w+102))=(u+v)*(w+102)*((u+v)*(w+102)):=by ac_rfl
  rw[e1,e2]at g6
  omega
 have h8:=Nat.mul_le_mul h7 h7
 omega
def fJ (x:Nat->Nat) (n:Nat):Nat->Nat
 | 0=>1
 | k+1=>fJ x n k*(eK x (k+1) n+1)
theorem nK (x:Nat->Nat) (n k:Nat):∀j,fJ x n k<=fJ x n (k+j)
 | 0=>Nat.le_refl _
 | j+1=>Nat.le_trans (nK x n k j) (Nat.le_mul_of_pos_right _ (Nat.succ_pos _))
theorem nL {x:Nat->Nat}{n k:Nat}(hn:n<=300) (hk:k<=6):fJ x n k<=17596287801:=by
 obtain⟨j,hj⟩:∃j,k+j=6:=⟨6 - k,by omega⟩
 refine Nat.le_trans (nK x n k j) ?_
 rw[hj]
 have h6:=tf x n
 have h:=am6 (a:=eK x 1 n+1) (b:=eK x 2 n+1) (c:=eK x 3 n+1) (d:=eK x 4 n+1) (e:=eK x 5 n+1) (f:=eK x 6 n+1) (by omega)
 refine Nat.le_trans (Nat.le_of_eq ?_) h
 simp only[fJ,Nat.one_mul,Nat.zero_add,Nat.reduceAdd]
 ac_rfl
def dP:Nat->Nat
 | 0=>0
 | k+1=>1+302*dP k
section
variable {N:ab}{p:List (List Int)}{k c:Nat}{ent:Nat->Nat->Nat->Int}{s t v:Nat}
def ab.xlev (N:ab) (p:List (List Int)) (a:Nat):Nat:=uL (λk=>!(N.crs p k a)) p.length
theorem vU (hok:N.Ok) (hp:ax N.nv p) (h1:1<=k) (hkl:k<=p.length){a:Nat}(ha:a<N.na) (hw:N.win p k c a) (hb:k=1\/cel p (k - 1) (N.fr a)≠cel p (k - 1) (N.to a)):N.xlev p a=k:=by
 refine vT h1 ?_ (λj j1 j2=>?_) hkl
 ·simp[ab.crs,hw.1,hw.2]
 ·have hb':=hb.resolve_left (by omega)
  have:cel p j (N.fr a)≠cel p j (N.to a):=λe=>hb' (bW hp j1 (by omega) (by omega) (ab.fr_lt hok ha).1 (ab.to_lt hok ha).1 e)
  simp[ab.crs,this]
theorem bp.mids {e tr:Nat->Nat->Option Nat}{P:Nat->Prop}{t a c:Nat}{l:List Nat}(h:bp e tr P t a c l):∃l',l=l' ++ [t]/\∀m∈l',∃b x,e b m=some x:=by
 induction h with
 | last _=>exact⟨[],rfl,λm hm=>by cases hm⟩
 | @on a m x c l h1 _ _ ih=>
  obtain⟨l',rfl,h2⟩:=ih
  refine⟨m :: l',rfl,λz hz=>?_⟩
  rcases List.mem_cons.1 hz with rfl | hz
  ·exact⟨_,_,h1⟩
  ·exact h2 z hz
theorem pT (hok:N.Ok) (hp:ax N.nv p) (h1:1<=k) (hkl:k<=p.length){x:Nat}{l:List Nat}(h:bp (lvE N p k c ent) (lvO N p k c ent) (λ_=>True) t s x l) (hn:l.Nodup):l.length<=eK (N.xlev p) k N.na+1:=by
 obtain⟨l',rfl,hm⟩:=h.mids
 have hn':=(List.nodup_append.1 hn).1
 rw[List.length_append]
 have:l'.length<=eK (N.xlev p) k N.na:=xB hn' λa ha=>by
  obtain⟨b,y,he⟩:=hm a ha
  unfold lvE at he
  by_cases hk:k=1
  ·rw[if_pos hk]at he
   split at he
   ·rename_i hw
    have han:=zk he
    exact⟨han,vU hok hp h1 hkl han hw (.inl hk)⟩
   ·cases he
  ·rw[if_neg hk]at he
   obtain⟨g1,g2,g3,g4,g5,-⟩:=j8 hok hp (by omega) hkl he
   exact⟨g3,vU hok hp h1 hkl g3 g2 (.inr λe=>g5.2 (by rw[<-e];exact g5.1))⟩
 simp
 omega
end
end
section
open Go Go.RowKit
def goT (N:ab) (P:Nat->Bool):Nat->List Nat->Int->Option Int
 | _,[],c=>some c
 | a,[b],c=>if N.turn a b=INF then none else some (cM c (N.turn a b))
 | a,b :: b' :: l,c=>if N.turn a b=INF\/P b=false\/N.w b=INF then none else goT N P b (b' :: l) (cM (cM c (N.turn a b)) (N.w b))
section
variable {N:ab}{P:Nat->Bool}{Q:Nat->Prop}{a b t c:Nat}{l:List Nat}{x y:Int}
theorem j9 (a b:Nat) (x:Int):goT N P a [b] x=if N.turn a b=INF then none else some (cM x (N.turn a b)):=rfl
theorem rk (hl:l≠[]) (a b:Nat) (x:Int):goT N P a (b :: l) x=if N.turn a b=INF\/P b=false\/N.w b=INF then none else goT N P b l (cM (cM x (N.turn a b)) (N.w b)):=by
 cases l with
 | nil=>exact absurd rfl hl
 | cons b' l=>rfl
theorem xC {c x:Int}(hc:0<=c/\c<=INF) (hx:0<=x/\x<=INF):cM c x=min (c+x) INF:=by
 unfold INF at *
 rw[ib,bX hc.1 hc.2,bX hx.1 hx.2]
theorem Bj (hok:N.Ok) (hP:∀b,b<N.na->Q b->P b=true) (h:bp N.e N.tr Q t a c l):∀{x:Int},0<=x->x+c<INF->goT N P a l x=some (x+c):=by
 induction h with
 | @last a y h=>
  intro x hx hc
  obtain⟨h1,rfl⟩:=ab.tr_some.1 h
  have hb:=(ab.turn_bd hok a t).1
  rw[j9,if_neg (by unfold INF at *;omega),xC (by omega) (by omega)]
  congr 1
  unfold INF at *
  omega
 | @on a m y c l h1 h2 h3 ih=>
  intro x hx hc
  obtain⟨g1,g2,rfl⟩:=ab.e_some.1 h1
  have hb:=(ab.turn_bd hok a m).1
  have hw:=(ab.w_bd hok m).1
  have hl:=h3.len
  have e1:=xC (c:=x) (x:=N.turn a m) (by unfold INF at *;omega) (by unfold INF at *;omega)
  have e2:=xC (c:=cM x (N.turn a m)) (x:=N.w m) (by rw[e1];unfold INF at *;omega) (by unfold INF at *;omega)
  have e3:cM (cM x (N.turn a m)) (N.w m)=x+(N.turn a m+N.w m):=by rw[e2,e1];unfold INF at *;omega
  rw[rk (by intro e;rw[e]at hl;exact absurd hl (Nat.lt_irrefl _)),if_neg (by
   rintro(h | h | h)
   ·unfold INF at *;omega
   ·rw[hP m (zk h1) h2]at h;cases h
   ·unfold INF at *;omega),e3,ih (by omega) (by unfold INF at *;omega)]
  congr 1
  omega
theorem th (hok:N.Ok) (hP:∀b,b<N.na->P b=true->Q b):∀(l:List Nat) (a:Nat) (x y:Int),l≠[]->0<=x/\x<=INF->goT N P a l x=some y->∃t c,(∃l',l=l' ++ [t])/\bp N.e N.tr Q t a c l/\y=min (x+c) INF
 | [],_,_,_,h,_,_=>absurd rfl h
 | [b],a,x,y,_,hx,h=>by
  rw[j9]at h
  split at h
  ·cases h
  ·rename_i hn
   have hb:=ab.turn_bd hok a b
   have hlt:N.turn a b<INF:=by unfold INF at *;omega
   have e:=xC (c:=x) (x:=N.turn a b) hx (by unfold INF at *;omega)
   have h':=Option.some.inj h
   exact⟨b,(N.turn a b).toNat,⟨[],rfl⟩,.last (ab.tr_some.2 ⟨hlt,rfl⟩),by rw[<-h',e];unfold INF at *;omega⟩
 | b :: b' :: l,a,x,y,_,hx,h=>by
  rw[rk (by simp)]at h
  split at h
  ·cases h
  ·rename_i hn
   have hb:=ab.turn_bd hok a b
   have hw:=ab.w_bd hok b
   have n1:¬N.turn a b=INF:=λe=>hn (.inl e)
   have n2:P b=true:=by
    cases hp:P b with
    | true=>rfl
    | false=>exact absurd (.inr (.inl hp)) hn
   have n3:¬N.w b=INF:=λe=>hn (.inr (.inr e))
   have hlt:N.turn a b<INF:=by unfold INF at *;omega
   have hlw:N.w b<INF:=by unfold INF at *;omega
   have e1:=xC (c:=x) (x:=N.turn a b) hx (by unfold INF at *;omega)
   have e2:=xC (c:=cM x (N.turn a b)) (x:=N.w b) (by rw[e1];unfold INF at *;omega) (by unfold INF at *;omega)
   obtain⟨t,c,⟨l',h1⟩,h2,h3⟩:=th hok hP (b' :: l) b _ y (by simp) (by rw[e2,e1];unfold INF at *;omega) h
   exact⟨t,_,⟨b :: l',by rw[h1];rfl⟩,.on (ab.e_some.2 ⟨hlt,hlw,rfl⟩) (hP b (ab.turn_in hlt).2.1 n2) h2,by rw[h3,e2,e1];unfold INF at *;omega⟩
theorem bp.cost (hok:N.Ok) (h:bp N.e N.tr Q t a c l):c<=l.length*4294967296:=by
 induction h with
 | @last a y h=>
  obtain⟨h1,rfl⟩:=ab.tr_some.1 h
  have:=ab.turn_bd hok a t
  simp only[List.length_cons,List.length_nil]
  unfold INF at *
  omega
 | @on a m y c l h1 h2 h3 ih=>
  obtain⟨g1,g2,rfl⟩:=ab.e_some.1 h1
  have:=ab.turn_bd hok a m
  have:=ab.w_bd hok m
  rw[List.length_cons,Nat.succ_mul]
  unfold INF at *
  omega
theorem bp.thru {v:Int}(h:bp N.e N.tr Q t a c l) (T:fE N Q a t v):v<=c:=by
 obtain⟨d,c',y,h1,h2,rfl⟩:=h.within
 exact T.least d c' y h1 h2
theorem bp.lt (h:bp N.e N.tr Q t a c l):∀b∈l,b<N.na:=by
 induction h with
 | @last a y h=>
  intro b hb
  have:b=t:=by simpa using hb
  rw[this]
  exact(ab.turn_in (ab.tr_some.1 h).1).2.1
 | @on a m y c l h1 h2 h3 ih=>
  intro b hb
  rcases List.mem_cons.1 hb with rfl | hb
  ·exact zk h1
  ·exact ih b hb
end
end
section
open Go Go.RowKit
structure kX (M:ab) (p:List (List Int)) (k:Nat) (rs:List Int) (s t:Nat) (l:List Nat):Prop where
 eq:rs=ints (s :: l)
 lt:∀b∈s :: l,b<M.na
 last:∃l',l=l' ++ [t]
 in_:M.inA p k (cel p k (M.to s)) s
 out:M.outA p k (cel p k (M.to s)) t
def ka (M:ab) (p:List (List Int)) (k s b:Nat):Bool:=decide (cel p k (M.fr b)=cel p k (M.to s)) && decide (cel p k (M.to b)=cel p k (M.to s))
theorem nM {M:ab}{p:List (List Int)}{k s b:Nat}:ka M p k s b=true↔M.win p k (cel p k (M.to s)) b:=by
 unfold ka ab.win
 simp
section
variable {M:ab}{p:List (List Int)}{costs:List Int}{k s t:Nat}{l:List Nat}{rs:List Int}{x:Int}
theorem kX.ne (T:kX M p k rs s t l):l≠[]:=by
 obtain⟨l',h⟩:=T.last
 rw[h];simp
theorem kX.lts (T:kX M p k rs s t l):s<M.na/\t<M.na:=by
 obtain⟨l',h⟩:=T.last
 exact⟨T.lt s (by simp),T.lt t (by rw[h];simp)⟩
theorem kX.mem (T:kX M p k rs s t l):s∈M.ins p k (cel p k (M.to s))/\t∈M.outs p k (cel p k (M.to s)):=⟨ab.mem_ins.2 ⟨T.lts.1,T.in_⟩,ab.mem_outs.2 ⟨T.lts.2,T.out⟩⟩
theorem kX.least (T:kX M p k rs s t l) (hok:M.Ok) (hp:ax M.nv p) (hco:ch M p costs) (h1:1<=k) (hkl:k<=p.length) (hl:l.length<=200) (hg:goT M (ka M p k s) s l 0=some x):M.ent p costs k s t<=x/\x<INF:=by
 obtain⟨t',c,⟨l',hl'⟩,hr,hx⟩:=th (Q:=M.win p k (cel p k (M.to s))) hok (λb _ hb=>nM.1 hb) l s 0 x T.ne (by unfold INF;omega) hg
 obtain⟨l2,hl2⟩:=T.last
 have e:t' = t:=by
  rw[hl2]at hl'
  have:=congrArg List.getLast? hl'
  simpa using this.symm
 subst e
 have TH:=hco.entOk hok hp k s t' h1 hkl T.lts.1 T.lts.2 T.in_ T.out
 have h2:=hr.thru TH
 have h3:=hr.cost hok
 have h4:=TH.bd
 have h5:l.length*4294967296<=200*4294967296:=Nat.mul_le_mul_right _ hl
 unfold INF at *
 omega
theorem zu (hok:M.Ok) (hs:s<M.na) (hin:M.inA p k (cel p k (M.to s)) s) (hout:M.outA p k (cel p k (M.to s)) t) (h0:0<=M.ent p costs k s t) (hlt:M.ent p costs k s t<INF)
  (hr:bp M.e M.tr (M.win p k (cel p k (M.to s))) t s (M.ent p costs k s t).toNat l):kX M p k (ints (s :: l)) s t l/\goT M (ka M p k s) s l 0=some (M.ent p costs k s t):=by
 refine⟨⟨rfl,λb hb=>?_,hr.end_,hin,hout⟩,?_⟩
 ·rcases List.mem_cons.1 hb with rfl | hb
  ·exact hs
  ·exact hr.lt b hb
 ·have:=Bj (P:=ka M p k s) hok (λb _ hb=>nM.2 hb) hr (x:=0) (Int.le_refl _) (by omega)
  rw[this]
  congr 1
  omega
end
end
section
open Go Go.RowKit
def rl (N:ab) (p:List (List Int)) (k c:Nat) (ent:Nat->Nat->Nat->Int) (s t x:Nat) (ls:List Nat) (j cur:Nat) (l1:List Nat):Prop:=
 (∃x1 x2,j<ls.length/\x1+x2=x/\bp (lvE N p k c ent) (lvO N p k c ent) (λ_=>True) t cur x2 (ls.drop j)/\∀c2 l2,bp N.e N.tr (N.win p k c) t cur c2 l2->bp N.e N.tr (N.win p k c) t s (x1+c2) (l1 ++ l2))\/
 (j=ls.length/\bp N.e N.tr (N.win p k c) t s x l1)
section
variable {N:ab}{p:List (List Int)}{k c:Nat}{ent:Nat->Nat->Nat->Int}{s t x j cur b:Nat}{ls l1:List Nat}
theorem rl.start (h:bp (lvE N p k c ent) (lvO N p k c ent) (λ_=>True) t s x ls):rl N p k c ent s t x ls 0 s []:=
 .inl ⟨0,x,h.len,by omega,by simpa using h,λc2 l2 h2=>by simpa using h2⟩
theorem rl.all (h:rl N p k c ent s t x ls j cur l1) (hj:ls.length<=j):bp N.e N.tr (N.win p k c) t s x l1:=by
 rcases h with⟨x1,x2,h1,-⟩ | ⟨-,h⟩
 ·omega
 ·exact h
theorem rl.step (hok:N.Ok) (hp:ax N.nv p) (hk:2<=k) (hkl:k<=p.length) (h:rl N p k c ent s t x ls j cur l1) (hb:ls[j]? = some b) :
  cur<N.na/\N.inA p (k - 1) (cel p (k - 1) (N.to cur)) cur/\b∈N.outs p (k - 1) (cel p (k - 1) (N.to cur))/\ent (k - 1) cur b<INF/\
  ∀l2,bp N.e N.tr (N.win p (k - 1) (cel p (k - 1) (N.to cur))) b cur (ent (k - 1) cur b).toNat l2->rl N p k c ent s t x ls (j+1) b (l1 ++ l2):=by
 have hjl:=(List.getElem?_eq_some_iff.1 hb).1
 have hk1:k≠1:=by omega
 rcases h with⟨x1,x2,h1,hx,hr,hg⟩ | ⟨e,-⟩
 ·have hd:ls.drop j=b :: ls.drop (j+1):=by rw[List.drop_eq_getElem_cons hjl];congr 1;exact(List.getElem?_eq_some_iff.1 hb).2
  rw[hd]at hr
  obtain⟨rest,hrest⟩:∃rest,ls.drop (j+1)=rest:=⟨_,rfl⟩
  rw[hrest]at hr
  cases hr with
  | last h=>
   have hlen:j+1=ls.length:=by
    have:=congrArg List.length hrest
    rw[List.length_drop]at this
    simp at this
    omega
   have h':=h
   unfold lvO at h'
   rw[if_neg hk1]at h'
   obtain⟨g1,g2,g3,g4,rfl⟩:=dI.1 h'
   exact⟨g1.1,g1.2.2,g3,g4,λl2 hl=>.inr ⟨hlen,by rw[<-hx];exact hg _ _ (xA hok hp hk hkl h' hl)⟩⟩
  | @on _ _ y c' _ h h0 hr=>
   have h':=h
   unfold lvE at h'
   rw[if_neg hk1]at h'
   obtain⟨g1,g2,g3,g4,g5,g6,g7,g8⟩:=j8 hok hp hk hkl h'
   refine⟨g1.1,g4,ab.mem_outs.2 ⟨g3,g5⟩,g6,λl2 hl=>.inl ⟨x1+y,c',?_,by omega,by rw[hrest];exact hr,λc2 l3 h3=>?_⟩⟩
   ·have:=hr.len
    rw[<-hrest,List.length_drop]at this
    omega
   ·have:=hg _ _ (Bi hok hp hk hkl h' hl h3)
    rw[Nat.add_assoc,List.append_assoc]
    exact this
 ·omega
end
end
end Go.Proofs.YtaomlhopkfmheaaGreatDoor
