/-
Lemmas for TopAlone. No condition.
-/
import Derived.Test.YtaagdjkinbemcaaGreatDoorPz
import Derived.Lib.Hide
import Derived.Test.YtaagdjkinbemcaaGreatDoorPh
namespace Go.Proofs.YtaagdjkinbemcaaGreatDoor
open _root_.Option renaming none->ω,some->Y
set_option linter.unusedVariables false
set_option linter.unusedSimpArgs false
set_option linter.unusedSectionVars false
set_option linter.unnecessarySimpa false
section
open Go
inductive ch (e:Nat->Nat->Option Nat) (s:Nat):Nat->Nat->Prop
 | here:ch e s s 0
 | on {a b c x:Nat}:ch e s a c->e a b=Y x->ch e s b (c+x)
structure jk (I:Nat) (e:Nat->Nat->Option Nat) (s t d:Nat):Prop where
 le:d<=I
 least:∀c,ch e s t c->d<=c
 way:d<I->ch e s t d
theorem jk.one {I:Nat}{e:Nat->Nat->Option Nat}{s t d d':Nat}(h:jk I e s t d) (h':jk I e s t d'):d=d':=by
 have h1:=h.le;have h2:=h'.le;rcases Nat.lt_or_ge d d' with k | k
 .have:=h'.least d (h.way U);omega
 .rcases Nat.lt_or_ge d' d with k2 | k2
  .have:=h.least d' (h'.way U);omega
  .omega
structure qE (I:Nat) (e:Nat->Nat->Option Nat) (s:Nat) (done q:Nat->Option Nat):Prop where
 fin:∀a c,done a=Y c->c<I/\ch e s a c/\∀c',ch e s a c'->c<=c'
 wait:∀b c,q b=Y c->c<I/\ch e s b c/\done b=ω
 edge:∀a c b x,done a=Y c->e a b=Y x->done b=ω->c+x<I->∃c',q b=Y c'/\c'<=c+x
 start:done s=ω->q s=Y 0
section
variable {I:Nat}{e:Nat->Nat->Option Nat}{s:Nat}{done q:Nat->Option Nat}
theorem qE.new (hI:0<I):qE I e s (λ_=>ω) (λb=>if b=s then Y 0 else ω) where
 fin:=λa c h=>by cases h
 wait:=λb c h=>by
  by_cases hb:b=s
  .subst hb;simp at h;subst h;exact⟨hI,.here,rfl⟩
  .simp[hb]at h
 edge:=λa c b x h=>by cases h
 start:=λ_=>by simp
theorem qE.cut (h:qE I e s done q){t c:Nat}(hg:ch e s t c) (hc:c<I) (ht:done t=ω):∃b c',q b=Y c'/\c'<=c:=by
 induction hg with
 | here=>exact⟨s,0,h.start ht,Nat.zero_le _⟩
 | @on a b c x hg he ih=>
  cases ha:done a with
  | none=>
   obtain⟨b',c',h1,h2⟩:=ih U ha;exact⟨b',c',h1,U⟩
  | some ca=>
   have h1:=(h.fin a ca ha).2.2 c hg;obtain⟨c',h2,h3⟩:=h.edge a ca b x ha he ht U;exact⟨b,c',h2,U⟩
theorem qE.popped (h:qE I e s done q){k c:Nat}(hk:q k=Y c) (hm:∀b c',q b=Y c'->c<=c'):c<I/\ch e s k c/\∀c',ch e s k c'->c<=c':=by
 obtain⟨h1,h2,h3⟩:=h.wait k c hk;refine⟨h1,h2,λc' hg=>?_⟩;rcases Nat.lt_or_ge c' I with hc | hc
 .obtain⟨b,c'',h4,h5⟩:=h.cut hg hc h3;have:=hm b c'' h4;omega
 .omega
theorem qE.next (h:qE I e s done q){k c:Nat}(hk:q k=Y c) (hm:∀b c',q b=Y c'->c<=c'){q':Nat->Option Nat}
  (h1:∀b x,b≠k->done b=ω->e k b=Y x->c+x<I->∃c',q' b=Y c'/\c'<=c+x)
  (h2:∀b c',b≠k->q b=Y c'->∃c'',q' b=Y c''/\c''<=c')
  (h3:∀b c',q' b=Y c'->b≠k/\done b=ω/\(q b=Y c'\/∃x,e k b=Y x/\c' = c+x/\c' < I)) :
  qE I e s (λa=>if a=k then Y c else done a) q':=by
 obtain⟨p1,p2,p3⟩:=h.popped hk hm;refine⟨λa c' ha=>?_,λb c' hb=>?_,λa c' b x ha he hb hx=>?_,λhs=>?_⟩
 .by_cases e1:a=k
  .subst e1;simp at ha;subst ha;exact⟨p1,p2,p3⟩
  .simp[e1]at ha;exact h.fin a c' ha
 .obtain⟨g1,g2,g3⟩:=h3 b c' hb;have g4:(if b=k then Y c else done b)=none:=by rw[if_neg g1];exact g2
  rcases g3 with g3 | ⟨x,g5,rfl,g6⟩
  .obtain⟨g5,g6,-⟩:=h.wait b c' g3;exact⟨g5,g6,g4⟩
  .exact⟨g6,.on p2 g5,g4⟩
 .by_cases eb:b=k
  .simp[eb]at hb
  .rw[if_neg eb]at hb;by_cases ea:a=k
   .subst ea;simp at ha;subst ha;exact h1 b x eb hb he hx
   .simp[ea]at ha;obtain⟨c1,g1,g2⟩:=h.edge a c' b x ha he hb hx;obtain⟨c2,g3,g4⟩:=h2 b c1 eb g1;exact⟨c2,g3,U⟩
 .by_cases es:s=k
  .simp[es]at hs
  .rw[if_neg es]at hs;obtain⟨c2,g1,g2⟩:=h2 s 0 es (h.start hs);obtain rfl:c2=0:=U;exact g1
theorem qE.ends (h:qE I e s done q) (hq:∀b,q b=ω) (t:Nat):jk I e s t ((done t).getD I):=by
 cases ht:done t with
 | some c=>
  obtain⟨h1,h2,h3⟩:=h.fin t c ht;exact⟨Nat.le_of_lt h1,h3,λ_=>h2⟩
 | none=>
  refine⟨Nat.le_refl _,λc hg=>?_,λhh=>absurd hh (by simp)⟩;rcases Nat.lt_or_ge c I with hc | hc
  .obtain⟨b,c',h4,-⟩:=h.cut hg hc ht;rw[hq b]at h4;cases h4
  .simpa using hc
end
end
section
open Go
def iS (q:Nat->Option Nat) (b x:Nat):Nat->Option Nat:=λk=>if k=b then(match q b with | some y=>Y (min x y) | none=>Y x) else q k
def fU (q:Nat->Option Nat) (b x:Nat):Bool:=match q b with | some y=>decide (x<y) | none=>true
def upd {α:Type}(f:Nat->α) (k:Nat) (v:α):Nat->α:=λa=>if a=k then v else f a
def del (q:Nat->Option Nat) (k:Nat):Nat->Option Nat:=λa=>if a=k then ω else q a
def dL (done:Nat->Option Nat) (a:Nat) (s:(Nat->Option Nat)×(Nat->Nat)) (p:Nat×Nat):(Nat->Option Nat)×(Nat->Nat):=
 if done p.1=ω then(iS s.1 p.1 p.2,if fU s.1 p.1 p.2 then upd s.2 p.1 a else s.2) else s
def dg (done:Nat->Option Nat) (a:Nat) (l:List (Nat×Nat)) (s:(Nat->Option Nat)×(Nat->Nat)):=l.foldl (dL done a) s
theorem BD (q:Nat->Option Nat) (b x:Nat):∃c,iS q b x b=Y c/\c<=x:=by
 simp only[iS,if_pos rfl];cases q b with
 | none=>exact⟨x,rfl,Nat.le_refl _⟩
 | some y=>exact⟨_,rfl,Nat.min_le_left _ _⟩
theorem BE (q:Nat->Option Nat) (b x:Nat){k c:Nat}(h:q k=Y c):∃c',iS q b x k=Y c'/\c'<=c:=by
 unfold iS;by_cases hk:k=b
 .subst hk;rw[if_pos rfl,h];exact⟨_,rfl,Nat.min_le_right _ _⟩
 .rw[if_neg hk];exact⟨c,h,Nat.le_refl _⟩
theorem DK {q:Nat->Option Nat}{b x k c:Nat}(h:iS q b x k=Y c):(q k=Y c/\(k=b->fU q b x=false))\/(k=b/\c=x/\fU q b x=true):=by
 unfold iS at h;by_cases hk:k=b
 .subst hk;rw[if_pos rfl]at h;cases hq:q k with
  | none=>rw[hq]at h;simp at h;exact .inr ⟨rfl,h.symm,by simp[fU,hq]⟩
  | some y=>
   rw[hq]at h;simp at h;by_cases hxy:x<y
   .exact .inr ⟨rfl,U,by simp[fU,hq,hxy]⟩
   .exact .inl ⟨by rw[<-h];congr 1;omega,λ_=>by simp[fU,hq];omega⟩
 .rw[if_neg hk]at h;exact .inl ⟨h,λe=>absurd e hk⟩
section
variable {done:Nat->Option Nat}{a:Nat}
theorem kL:∀(l:List (Nat×Nat)) (s:(Nat->Option Nat)×(Nat->Nat)){k c:Nat},s.1 k=Y c->∃c',(dg done a l s).1 k=Y c'/\c'<=c
 | [],s,k,c,h=>⟨c,h,Nat.le_refl _⟩
 | p :: l,s,k,c,h=>by
  have h1:∃c',(dL done a s p).1 k=Y c'/\c'<=c:=by
   unfold dL
   split
   .exact BE _ _ _ h
   .exact⟨c,h,Nat.le_refl _⟩
  obtain⟨c',h2,h3⟩:=h1;obtain⟨c'',h4,h5⟩:=kL l _ h2;exact⟨c'',h4,Nat.le_trans h5 h3⟩
theorem sQ:∀(l:List (Nat×Nat)) (s:(Nat->Option Nat)×(Nat->Nat)){b x:Nat},(b,x)∈l->done b=ω->∃c',(dg done a l s).1 b=Y c'/\c'<=x
 | [],s,b,x,h,_=>by cases h
 | p :: l,s,b,x,h,hd=>by
  rcases List.mem_cons.1 h with h | h
  .subst h;have h1:∃c',(dL done a s (b,x)).1 b=Y c'/\c'<=x:=by
    unfold dL;rw[if_pos hd];exact BD _ _ _
   obtain⟨c',h2,h3⟩:=h1;obtain⟨c'',h4,h5⟩:=kL l _ h2;exact⟨c'',h4,Nat.le_trans h5 h3⟩
  .exact sQ l _ h hd
theorem jC:∀(l:List (Nat×Nat)) (s:(Nat->Option Nat)×(Nat->Nat)){b c:Nat},(dg done a l s).1 b=Y c->(s.1 b=Y c/\(dg done a l s).2 b=s.2 b)\/(done b=ω/\(b,c)∈l/\(dg done a l s).2 b=a)
 | [],s,b,c,h=>.inl ⟨h,rfl⟩
 | p :: l,s,b,c,h=>by
  rcases jC l (dL done a s p) h with⟨h1,h2⟩ | ⟨h1,h2,h3⟩
  .have h4:(s.1 b=Y c/\(dL done a s p).2 b=s.2 b)\/(done b=ω/\(b,c)=p/\(dL done a s p).2 b=a):=by
    unfold dL at h1⊢;by_cases hd:done p.1=ω
    .rw[if_pos hd]at h1⊢;rcases DK h1 with⟨g1,g2⟩ | ⟨g1,g2,g3⟩
     .left;refine⟨g1,?_⟩;simp only;by_cases hb:b=p.1
      .rw[g2 hb];rfl
      .split
       .simp[upd,hb]
       .rfl
     .right;refine⟨by rw[g1];exact hd,by rw[g1,g2],?_⟩;simp only;rw[g3,if_pos rfl];simp[upd,g1]
    .rw[if_neg hd]at h1⊢;exact .inl ⟨h1,rfl⟩
   rcases h4 with⟨g1,g2⟩ | ⟨g1,g2,g3⟩
   .exact .inl ⟨g1,h2.trans g2⟩
   .exact .inr ⟨g1,by rw[g2];exact List.mem_cons_self,h2.trans g3⟩
  .exact .inr ⟨h1,List.mem_cons_of_mem _ h2,h3⟩
end
def jl (I:Nat) (q:Nat->Option Nat):Nat->Option Nat:=λb=>match q b with | some c=>if c<I then Y c else ω | none=>ω
theorem cH {I:Nat}{q:Nat->Option Nat}{b c:Nat}:jl I q b=Y c↔q b=Y c/\c<I:=by
 unfold jl;cases q b with
 | none=>simp
 | some y=>
  by_cases h:y<I
  .simp[h];intro e;omega
  .simp[h];intro e;omega
section
variable {I:Nat}{e:Nat->Nat->Option Nat}{s:Nat}{done q:Nat->Option Nat}{par:Nat->Nat}
theorem qE.round (h:qE I e s done (jl I q)){k c:Nat}(hk:q k=Y c) (hc:c<I) (hm:∀b c',q b=Y c'->c<=c') (l:List (Nat×Nat))
  (hl1:∀b x,b≠k->e k b=Y x->c+x<I->done b=ω->(b,c+x)∈l) (hl2:∀b y,(b,y)∈l->y<I->∃x,e k b=Y x/\y=c+x) :
  qE I e s (upd done k (Y c)) (jl I (dg (upd done k (Y c)) k l (del q k,par)).1):=by
 have hk':jl I q k=Y c:=cH.2 ⟨hk,hc⟩;refine h.next hk' (λb c' hb=>hm b c' (cH.1 hb).1) (λb x hb hd he hx=>?_) (λb c' hb hq=>?_) (λb c' hq=>?_)
 .obtain⟨c',h1,h2⟩:=sQ (done:=upd done k (Y c)) (a:=k) l (del q k,par) (hl1 b x hb he hx hd) (by simp[upd,hb,hd]);exact⟨c',cH.2 ⟨h1,U⟩,h2⟩
 .obtain⟨h1,h2⟩:=cH.1 hq;obtain⟨c'',h3,h4⟩:=kL (done:=upd done k (Y c)) (a:=k) l (del q k,par) (k:=b) (c:=c') (by simp[del,hb,h1]);exact⟨c'',cH.2 ⟨h3,U⟩,h4⟩
 .obtain⟨h1,h2⟩:=cH.1 hq;rcases jC l (del q k,par) h1 with⟨h3,-⟩ | ⟨h3,h4,-⟩
  .simp only[del]at h3;by_cases hb:b=k
   .simp[hb]at h3
   .rw[if_neg hb]at h3;have h5:=cH.2 ⟨h3,h2⟩;exact⟨hb,(h.wait b c' h5).2.2,.inl h5⟩
  .have hb:b≠k:=λe=>by subst e;simp[upd]at h3
   simp only[upd,if_neg hb]at h3;obtain⟨x,h5,h6⟩:=hl2 b c' h4 h2;exact⟨hb,h3,.inr ⟨x,h5,h6,h2⟩⟩
theorem qE.over (h:qE I e s done (jl I q)) (hq:∀b c,q b=Y c->I<=c) (t:Nat):jk I e s t ((done t).getD I):=
 h.ends (λb=>by
  cases hb:jl I q b with
  | none=>rfl
  | some c=>have:=cH.1 hb;have:=hq b c this.1;omega) t
end
end
section
open Go
inductive yK (e:Nat->Nat->Option Nat) (t:Nat):Nat->Nat->Nat->Prop
 | stop:yK e t t 0 0
 | on {a b x c n:Nat}:e a b=Y x->yK e t b c n->yK e t a (x+c) (n+1)
theorem ch.front {e:Nat->Nat->Option Nat}{a b x:Nat}(h:e a b=Y x){t c:Nat}(hg:ch e b t c):ch e a t (x+c):=by
 induction hg with
 | here=>simpa using ch.on (ch.here (e:=e) (s:=a)) h
 | @on p q c y hg he ih=>rw[<-Nat.add_assoc];exact .on ih he
theorem yK.goes {e:Nat->Nat->Option Nat}{t a c n:Nat}(h:yK e t a c n):ch e a t c:=by
 induction h with
 | stop=>exact .here
 | on he _ ih=>exact ch.front he ih
theorem yK.back {e:Nat->Nat->Option Nat}{t u x:Nat}(hx:e t u=Y x){a c n:Nat}(h:yK e t a c n):yK e u a (c+x) (n+1):=by
 induction h with
 | stop=>simpa using yK.on hx (yK.stop (e:=e) (t:=u))
 | @on a b y c n he _ ih=>rw[Nat.add_assoc];exact .on he ih
theorem ch.way {e:Nat->Nat->Option Nat}{s t c:Nat}(h:ch e s t c):∃n,yK e t s c n:=by
 induction h with
 | here=>exact⟨0,.stop⟩
 | on _ he ih=>
  obtain⟨n,hn⟩:=ih;exact⟨n+1,hn.back he⟩
inductive aA (e:Nat->Nat->Option Nat) (P:Nat->Prop) (a:Nat):Nat->Nat->Prop
 | here:aA e P a a 0
 | on {b d c x:Nat}:aA e P a b c->e b d=Y x->P d->aA e P a d (c+x)
def iM (e lp:Nat->Nat->Option Nat) (to_ lev:Nat->Nat) (a b:Nat):Option Nat:=if lev (to_ a)=0 then e a b else lp a b
section
variable {I L:Nat}{e lp:Nat->Nat->Option Nat}{fr to_:Nat->Nat}{cell:Nat->Nat->Nat}{lev:Nat->Nat}{s t:Nat}
theorem leave {a k C c0 d:Nat}(hends:∀a b x,e a b=Y x->fr b=to_ a) (ht:cell k (fr t)≠C) :
  ∀{c n d c0},yK e t d c n->aA e (λd=>cell k (fr d)=C/\cell k (to_ d)=C) a d c0->cell k (to_ d)=C->d≠t->
   ∃d' c1 b y c2 n2,aA e (λd=>cell k (fr d)=C/\cell k (to_ d)=C) a d' c1/\e d' b=Y y/\cell k (fr b)=C/\cell k (to_ b)≠C/\yK e t b c2 n2/\n2<n/\c1+y+c2=c0+c:=by
 intro c n d c0 hw
 induction hw generalizing c0 with
 | stop=>intro _ _ h;exact absurd rfl h
 | @on d b x c n he hw ih=>
  intro hi hd hne;have hf:cell k (fr b)=C:=by rw[hends d b x he];exact hd
  by_cases hb:cell k (to_ b)=C
  .obtain⟨d',c1,b',y,c2,n2,g1,g2,g3,g4,g5,g6,g7⟩:=ih (.on hi he ⟨hf,hb⟩) hb (λe=>ht (by rw[<-e];exact hf));exact⟨d',c1,b',y,c2,n2,g1,g2,g3,g4,g5,U,U⟩
  .exact⟨d,c0,b,x,c,n,hi,he,hf,hb,hw,U,U⟩
end
end
section
open Go
inductive pi (e:Nat->Nat->Option Nat) (P:Nat->Prop) (d:Nat):Nat->Nat->Nat->Prop
 | stop:pi e P d d 0 0
 | on {a b x c n:Nat}:e a b=Y x->P b->pi e P d b c n->pi e P d a (x+c) (n+1)
theorem pi.back {e:Nat->Nat->Option Nat}{P:Nat->Prop}{d u x:Nat}(hx:e d u=Y x) (hu:P u){a c n:Nat}(h:pi e P d a c n):pi e P u a (c+x) (n+1):=by
 induction h with
 | stop=>simpa using pi.on hx hu (pi.stop (e:=e) (P:=P) (d:=u))
 | @on a b y c n he hp _ ih=>rw[Nat.add_assoc];exact .on he hp ih
theorem aA.way {e:Nat->Nat->Option Nat}{P:Nat->Prop}{a d c:Nat}(h:aA e P a d c):∃n,pi e P d a c n:=by
 induction h with
 | here=>exact⟨0,.stop⟩
 | on _ he hp ih=>
  obtain⟨n,hn⟩:=ih;exact⟨n+1,hn.back he hp⟩
theorem aA.trans {e:Nat->Nat->Option Nat}{P:Nat->Prop}{a b d c c':Nat}(h:aA e P a b c) (k:aA e P b d c'):aA e P a d (c+c'):=by
 induction k with
 | here=>exact h
 | on _ he hp ih=>rw[<-Nat.add_assoc];exact .on ih he hp
theorem aA.mono {e:Nat->Nat->Option Nat}{P Q:Nat->Prop}{a d c:Nat}(hPQ:∀x,P x->Q x) (h:aA e P a d c):aA e Q a d c:=by
 induction h with
 | here=>exact .here
 | on _ he hp ih=>exact .on ih he (hPQ _ hp)
def j8 (fr to_ cell:Nat->Nat) (PC:Nat->Prop) (p d:Nat):Prop:=PC d/\cell (fr d)=cell (to_ p)/\cell (to_ d)=cell (to_ p)
structure Kids (I:Nat) (e e0:Nat->Nat->Option Nat) (fr to_ cell:Nat->Nat) (PC T:Nat->Prop) (kE kO:Nat->Nat->Option Nat):Prop where
 ends:∀a b x,e a b=Y x->fr b=to_ a
 realE:∀p m x,kE p m=Y x->∃d c y,aA e (j8 fr to_ cell PC p) p d c/\e d m=Y y/\PC m/\x=c+y
 realO:∀p b x,kO p b=Y x->∃d c y,aA e (j8 fr to_ cell PC p) p d c/\e0 d b=Y y/\x=c+y
 leastE:∀p d c m y,cell (fr p)≠cell (to_ p)->aA e (j8 fr to_ cell PC p) p d c->e d m=Y y->PC m->cell (fr m)=cell (to_ p)->cell (to_ m)≠cell (to_ p)->c+y<I->∃x,kE p m=Y x/\x<=c+y
 pcT:∀m,PC m->T m
 leastO:∀p d c b y,T p->cell (fr p)≠cell (to_ p)->aA e (j8 fr to_ cell PC p) p d c->e0 d b=Y y->¬PC b->c+y<I->∃x,kO p b=Y x/\x<=c+y
section
variable {I:Nat}{e e0:Nat->Nat->Option Nat}{fr to_ cell:Nat->Nat}{PC T:Nat->Prop}{kE kO:Nat->Nat->Option Nat}
theorem Kids.leave (h:Kids I e e0 fr to_ cell PC T kE kO){a d:Nat}:∀{c n p c0},pi e PC d p c n->aA e (j8 fr to_ cell PC a) a p c0->cell (to_ p)=cell (to_ a)->
  aA e (j8 fr to_ cell PC a) a d (c0+c)\/∃d' c1 m y c2 n2,aA e (j8 fr to_ cell PC a) a d' c1/\e d' m=Y y/\PC m/\cell (fr m)=cell (to_ a)/\cell (to_ m)≠cell (to_ a)/\pi e PC d m c2 n2/\n2<n/\c1+y+c2=c0+c:=by
 intro c n p c0 hw
 induction hw generalizing c0 with
 | stop=>intro hi _;exact .inl hi
 | @on p b x c n he hp hw ih=>
  intro hi hd;have hf:cell (fr b)=cell (to_ a):=by rw[h.ends p b x he];exact hd
  by_cases hb:cell (to_ b)=cell (to_ a)
  .rcases ih (.on hi he ⟨hp,hf,hb⟩) hb with g | ⟨d',c1,m,y,c2,n2,g1,g2,g3,g4,g5,g6,g7,g8⟩
   .left;rw[<-Nat.add_assoc];exact g
   .exact .inr ⟨d',c1,m,y,c2,n2,g1,g2,g3,g4,g5,g6,U,U⟩
  .exact .inr ⟨p,c0,b,x,c,n,hi,he,hp,hf,hb,hw,U,U⟩
theorem Kids.goes (h:Kids I e e0 fr to_ cell PC T kE kO){a p c:Nat}(hg:ch kE a p c):aA e PC a p c:=by
 induction hg with
 | here=>exact .here
 | @on p m c x hg he ih=>
  obtain⟨d,c1,y,h1,h2,h3,rfl⟩:=h.realE p m x he;rw[<-Nat.add_assoc];exact .on (ih.trans (h1.mono λ_ hx=>hx.1)) h2 h3
theorem Kids.found (h:Kids I e e0 fr to_ cell PC T kE kO){b d y:Nat}(hy:e0 d b=Y y) (hb:¬PC b):∀(n p c:Nat),pi e PC d p c n->T p->cell (fr p)≠cell (to_ p)->c+y<I->∃q c1 z,ch kE p q c1/\kO q b=Y z/\c1+z<=c+y:=by
 intro n
 induction n using Nat.strongRecOn with
 | ind n ih=>
  intro p c hw hT hp hc;rcases h.leave (a:=p) hw .here rfl with g | ⟨d',c1,m,x,c2,n2,g1,g2,g3,g4,g5,g6,g7,g8⟩
  .rw[Nat.zero_add]at g;obtain⟨z,k1,k2⟩:=h.leastO p d c b y hT hp g hy hb hc;exact⟨p,0,z,.here,k1,U⟩
  .obtain⟨x',k1,k2⟩:=h.leastE p d' c1 m x hp g1 g2 g3 g4 g5 U;obtain⟨q,c3,z,k3,k4,k5⟩:=ih n2 g7 m c2 g6 (h.pcT m g3) (by rw[g4];exact λe=>g5 e.symm) U;exact⟨q,x' + c3,z,ch.front k1 k3,k4,U⟩
theorem Kids.law (h:Kids I e e0 fr to_ cell PC T kE kO){a b v:Nat}(hT:T a) (ha:cell (fr a)≠cell (to_ a)) (hb:¬PC b) (hv1:v<=I) (hv2:∀p c y,ch kE a p c->kO p b=Y y->v<=c+y) (hv3:v<I->∃p c y,ch kE a p c/\kO p b=Y y/\v=c+y) :
  (∀d c y,aA e PC a d c->e0 d b=Y y->v<=c+y)/\(v<I->∃d c y,aA e PC a d c/\e0 d b=Y y/\v=c+y):=by
 refine⟨λd c y hw hy=>?_,λhh=>?_⟩
 .rcases Nat.lt_or_ge (c+y) I with hc | hc
  .obtain⟨n,hn⟩:=hw.way;obtain⟨q,c1,z,k1,k2,k3⟩:=h.found hy hb n a c hn hT ha hc;have:=hv2 q c1 z k1 k2;omega
  .omega
 .obtain⟨p,c,y,g1,g2,rfl⟩:=hv3 hh;obtain⟨d,c1,z,g3,g4,rfl⟩:=h.realO p b y g2;exact⟨d,c+c1,z,(h.goes g1).trans (g3.mono λ_ hx=>hx.1),g4,U⟩
end
end
section
open Go
def eT (tr:Nat->Nat->Option Nat) (ok:Nat->Bool) (w:Nat->Nat) (a b:Nat):Option Nat:=
 match tr a b with
 | some t=>if ok b=true then Y (t+w b) else ω
 | none=>ω
theorem uQ {tr:Nat->Nat->Option Nat}{ok:Nat->Bool}{w:Nat->Nat}{a b x:Nat}:eT tr ok w a b=Y x↔∃t,tr a b=Y t/\ok b=true/\x=t+w b:=by
 unfold eT;cases h:tr a b with
 | none=>simp
 | some t=>
  by_cases h2:ok b=true
  .simp[h2,eq_comm]
  .simp[h2]
theorem KS {tr:Nat->Nat->Option Nat}{ok:Nat->Bool}{w:Nat->Nat}{s t c:Nat}(hs:ok s=true) (h:ch (eT tr ok w) s t c):ok t=true/\∃c',ch (eT (λa b=>tr b a) ok w) t s c'/\c+w s=c' + w t:=by
 induction h with
 | here=>exact⟨hs,0,.here,rfl⟩
 | @on a b c x hg he ih=>
  obtain⟨ha,c',g1,g2⟩:=ih;obtain⟨t0,h1,h2,rfl⟩:=uQ.1 he;refine⟨h2,t0+w a+c',ch.front ((uQ (tr:=λa b=>tr b a)).2 ⟨t0,h1,ha,rfl⟩) g1,U⟩
end
section
open Go Go.RowKit
def aU (a:Int):Bool:=decide ((0<=a/\a<=2147483648)\/a=1152921504606846976)
def ir (x:Int):Bool:=decide (-1048576<=x/\x<=1048576)
structure dM (ins outs:Int) (costs:List Int):Prop where
 ins_:0<=ins/\ins<=16
 outs_:0<=outs/\outs<=16
 len:(costs.length:Int)=ins*outs
 cost:∀c∈costs,aU c=true
end
section
open Go Go.RowKit
def nK (f:fJ->Int) (arcs:List fJ) (nv k:Nat):List Int:=(List.range nv).map λ(i:Nat)=>(((arcs.take k).countP λa=>f a == (i:Int)):Int)
theorem lW (f:fJ->Int) (arcs:List fJ) (nv k:Nat):(nK f arcs nv k).length=nv:=by simp[nK]
theorem jD (f:fJ->Int) (arcs:List fJ) (nv:Nat):nK f arcs nv 0=List.replicate nv 0:=by
 apply List.ext_getElem? ;intro i;simp only[nK,List.getElem?_map,List.getElem?_replicate];by_cases h:i<nv <;>simp[h]
theorem eA {f:fJ->Int}{arcs:List fJ}{nv k j:Nat}(hj:j<nv):(nK f arcs nv k)[j]? = Y (((arcs.take k).countP λa=>f a == (j:Int)):Int):=by
 simp[nK,hj]
theorem jE {f:fJ->Int}{arcs:List fJ}{nv k j:Nat}{a:fJ}(ha:arcs[k]? = Y a) (hf:f a=(j:Int)) (hj:j<nv) :
  nK f arcs nv (k+1)=(nK f arcs nv k).set j ((((arcs.take k).countP λa=>f a == (j:Int)):Int)+1):=by
 have hk:=(List.getElem?_eq_some_iff.1 ha).1;have hak:=(List.getElem?_eq_some_iff.1 ha).2;apply List.ext_getElem? ;intro i;rw[List.getElem?_set];simp only[nK,List.getElem?_map,List.length_map,List.length_range];by_cases h:j=i
 .subst h;simp only[if_true,hj,List.getElem?_range,Option.map_some];rw[List.take_succ_eq_append_getElem hk,List.countP_append,hak];simp[hf]
 .simp only[h,if_false];by_cases hn:i<nv
  .simp only[hn,List.getElem?_range,Option.map_some,Option.some.injEq];rw[List.take_succ_eq_append_getElem hk,List.countP_append,hak];have:(f a == (i:Int))=false:=by rw[hf];simp;omega
   simp[this]
  .simp[hn]
theorem uR (f:fJ->Int) (arcs:List fJ) (k j:Nat):((arcs.take k).countP λa=>f a == (j:Int))<=arcs.length:=
 Nat.le_trans List.countP_le_length (by simp;omega)
def iT (a:fJ):Int:=a.1
def dS (a:fJ):Int:=a.2.1
structure sS (verts:List fJ) (arcs:List fJ) (types:List wH):Prop where
 nv:verts.length<=4096
 na:arcs.length<=16384
 nt:types.length<=256
 types_:∀t∈types,dM t.1 t.2.1 t.2.2
 verts_:∀v∈verts,ir v.1=true/\ir v.2.1=true/\0<=v.2.2/\v.2.2<types.length
 arcs_:∀a∈arcs,(0<=a.1/\a.1<verts.length)/\(0<=a.2.1/\a.2.1<verts.length)/\aU a.2.2=true
 deg:∀(i:Nat) v t,verts[i]? = Y v->types[v.2.2.toNat]? = Y t->
  (arcs.countP λa=>dS a == (i:Int))<=16/\(arcs.countP λa=>iT a == (i:Int))<=16/\t.1=(arcs.countP λa=>dS a == (i:Int):Nat)/\t.2.1=(arcs.countP λa=>iT a == (i:Int):Nat)
end
section
open Go Go.RowKit
def aO (row:List Int):Int:=row.foldl (λn x=>max n (x+1)) 0
theorem rT (xs:List Int) (x:Int):aO (xs ++ [x])=max (aO xs) (x+1):=by simp[aO]
theorem eB {row:List Int}{k:Nat}{x:Int}(h:row[k]? = Y x):aO (row.take (k+1))=max (aO (row.take k)) (x+1):=by
 rw[List.take_add_one,h,Option.toList_some,rT]
theorem kM (row:List Int):∀a:Int,a<=row.foldl (λn x=>max n (x+1)) a/\(∀x∈row,x+1<=row.foldl (λn x=>max n (x+1)) a)/\(row.foldl (λn x=>max n (x+1)) a=a\/∃x∈row,row.foldl (λn x=>max n (x+1)) a=x+1):=by
 induction row with
 | nil=>exact λa=>⟨Int.le_refl _,by simp,.inl rfl⟩
 | cons y row ih=>
  intro a;obtain⟨h1,h2,h3⟩:=ih (max a (y+1));simp only[List.foldl_cons];refine⟨U,λx hx=>?_,?_⟩
  .rcases List.mem_cons.1 hx with rfl | hx
   .omega
   .exact h2 x hx
  .rcases h3 with h3 | ⟨x,hx,h3⟩
   .rw[h3];by_cases h:a<=y+1
    .exact .inr ⟨y,by simp,U⟩
    .exact .inl U
   .exact .inr ⟨x,by simp[hx],h3⟩
theorem cW (row:List Int):0<=aO row:=(kM row 0).1
theorem nL {row:List Int}{x:Int}(h:x∈row):x+1<=aO row:=(kM row 0).2.1 x h
theorem BF (row:List Int):aO row=0\/∃x∈row,aO row=x+1:=(kM row 0).2.2
theorem dq {row:List Int}{n:Int}(hn:0<=n) (h:∀x∈row,x<n):aO row<=n:=by
 rcases BF row with h1 | ⟨x,hx,h1⟩
 .omega
 .have:=h x hx;omega
def lX (n:Nat) (row:List Int):Prop:=∀x∈row,0<=x/\x<n
def eX (row:List Int):Prop:=∀c:Int,0<=c->c<aO row->c∈row
def fV (low row:List Int):Prop:=∀(a b:Nat) (x y x' y':Int),low[a]? = Y x->low[b]? = Y y->row[a]? = Y x'->row[b]? = Y y'->x<=y->x'<=y'
structure aP (nv:Nat) (p:List (List Int)):Prop where
 nv_:nv<=4096
 some_:1<=p.length
 few:p.length<=6
 rows:∀x∈p,x.length=nv
 inr:∀x∈p,lX nv x
 full:∀x∈p,eX x
 nest:∀(k:Nat) (l r:List Int),p[k]? = Y l->p[k+1]? = Y r->fV l r
theorem fV.eq {l r:List Int}(h:fV l r){a b:Nat}{x x' y':Int}(h1:l[a]? = Y x) (h2:l[b]? = Y x) (h3:r[a]? = Y x') (h4:r[b]? = Y y'):x' = y':=
 Int.le_antisymm (h a b x x x' y' h1 h2 h3 h4 (Int.le_refl _)) (h b a x x y' x' h2 h1 h4 h3 (Int.le_refl _))
def yL (zs:List Int) (m:Nat):List Int:=(List.range m).map λ(a:Nat)=>(zs.count (a:Int):Int)
theorem jF (zs:List Int) (m:Nat):(yL zs m).length=m:=by simp[yL]
theorem zX (m:Nat):yL [] m=List.replicate m 0:=by
 apply List.ext_getElem? ;intro i;simp only[yL,List.getElem?_map,List.getElem?_replicate];by_cases h:i<m <;>simp[h]
theorem jG {zs:List Int}{m j:Nat}(hj:j<m):(yL zs m)[j]? = Y (zs.count (j:Int):Int):=by simp[yL,hj]
theorem wJ {zs:List Int}{m j:Nat}(hj:j<m):yL (zs ++ [(j:Int)]) m=(yL zs m).set j ((zs.count (j:Int):Int)+1):=by
 apply List.ext_getElem? ;intro i;rw[List.getElem?_set];simp only[yL,List.getElem?_map,List.length_map,List.length_range];by_cases h:j=i
 .subst h;simp[hj]
 .simp only[h,if_false];by_cases hn:i<m
  .simp only[hn,List.getElem?_range,Option.map_some,Option.some.injEq,List.count_append];rw[List.count_singleton];have:(((j:Int)) == (i:Int))=false:=by simp;omega
   simp[this]
  .simp[hn]
end
section
open Go Go.RowKit
abbrev aT:Int:=1152921504606846976
abbrev bl:Nat:=1152921504606846976
def hit (xa:List fJ) (p:Bool) (v:Nat) (j:Nat):Bool:=match xa[j]? with | some x=>(if p then x.1 else x.2.1) == (v:Int) | none=>false
def ends (xa:List fJ) (k:Nat) (q:Bool×Nat):List Int:=((List.range k).filter (hit xa q.1 q.2)).map (λj:Nat=>(j:Int))
theorem wK (xa:List fJ) (k:Nat) (q:Bool×Nat):(ends xa k q).length<=k:=by
 simp only[ends,List.length_map];exact Nat.le_trans (List.length_filter_le _ _) (by simp)
structure ab where
 vs:List fJ
 xa:List fJ
 ts:List wH
def ab.Ok (N:ab):Prop:=sS N.vs N.xa N.ts
def ab.na (N:ab):Nat:=N.xa.length
def ab.nv (N:ab):Nat:=N.vs.length
def ab.arc (N:ab) (a:Nat):fJ:=(N.xa[a]?).getD (0,0,0)
def ab.fr (N:ab) (a:Nat):Nat:=(N.arc a).1.toNat
def ab.to (N:ab) (a:Nat):Nat:=(N.arc a).2.1.toNat
def ab.w (N:ab) (a:Nat):Int:=if a<N.na then(N.arc a).2.2 else aT
def ab.tab (N:ab) (v:Nat):wH:=(N.ts[((N.vs[v]?).getD (0,0,0)).2.2.toNat]?).getD (0,0,[])
def ab.inPl (N:ab) (a:Nat):Nat:=(ends N.xa a (false,N.to a)).length
def ab.outPl (N:ab) (a:Nat):Nat:=(ends N.xa a (true,N.fr a)).length
def iN (t:wH) (i o:Nat):Int:=if(i:Int)<t.1/\(o:Int)<t.2.1 then(t.2.2[i*t.2.1.toNat+o]?).getD aT else aT
def ab.turn (N:ab) (a b:Nat):Int:=if a<N.na/\b<N.na/\N.to a=N.fr b then iN (N.tab (N.to a)) (N.inPl a) (N.outPl b) else aT
theorem qF {c:Int}(h:aU c=true):0<=c/\(c=aT\/c<=2147483648):=by
 simp[aU]at h;unfold aT;omega
theorem ab.arc_get {N:ab}{a:Nat}(ha:a<N.na):N.xa[a]? = Y (N.arc a):=by
 unfold ab.na at ha;simp[ab.arc,List.getElem?_eq_getElem ha]
theorem ab.arc_mem {N:ab}{a:Nat}(ha:a<N.na):N.arc a∈N.xa:=List.mem_of_getElem? (N.arc_get ha)
section
variable {N:ab}(hok:N.Ok)
include hok
theorem ab.fr_lt {a:Nat}(ha:a<N.na):N.fr a<N.nv/\(N.arc a).1=(N.fr a:Int):=by
 have:=(hok.arcs_ _ (N.arc_mem ha)).1;unfold ab.fr ab.nv;omega
theorem ab.to_lt {a:Nat}(ha:a<N.na):N.to a<N.nv/\(N.arc a).2.1=(N.to a:Int):=by
 have:=(hok.arcs_ _ (N.arc_mem ha)).2.1;unfold ab.to ab.nv;omega
theorem ab.w_bd (a:Nat):0<=N.w a/\(N.w a=aT\/N.w a<=2147483648):=by
 unfold ab.w;by_cases h:a<N.na
 .rw[if_pos h];exact qF (hok.arcs_ _ (N.arc_mem h)).2.2
 .rw[if_neg h];exact⟨by decide,.inl rfl⟩
theorem ab.tab_ok {v:Nat}(hv:v<N.nv):dM (N.tab v).1 (N.tab v).2.1 (N.tab v).2.2/\∃t x,N.vs[v]? = Y x/\N.ts[x.2.2.toNat]? = Y t/\t=N.tab v/\0<=x.2.2/\x.2.2<N.ts.length:=by
 have h1:N.vs[v]? = Y (N.vs[v]'hv):=List.getElem?_eq_getElem hv;have h2:=(hok.verts_ _ (List.mem_of_getElem? h1)).2.2;have h3:((N.vs[v]'hv).2.2.toNat)<N.ts.length:=U;have h4:N.ts[(N.vs[v]'hv).2.2.toNat]? = Y (N.ts[(N.vs[v]'hv).2.2.toNat]'h3):=List.getElem?_eq_getElem h3;have h5:N.tab v=N.ts[(N.vs[v]'hv).2.2.toNat]'h3:=by simp[ab.tab,h1,h4]
 rw[h5];exact⟨hok.types_ _ (List.mem_of_getElem? h4),_,_,h1,h4,rfl,h2⟩
theorem DL {t:wH}(ht:dM t.1 t.2.1 t.2.2) (i o:Nat):0<=iN t i o/\(iN t i o=aT\/iN t i o<=2147483648):=by
 unfold iN
 split
 .cases h:t.2.2[i*t.2.1.toNat+o]? with
  | none=>exact⟨by decide,.inl rfl⟩
  | some c=>exact qF (ht.cost _ (List.mem_of_getElem? h))
 .exact⟨by decide,.inl rfl⟩
theorem ab.turn_bd (a b:Nat):0<=N.turn a b/\(N.turn a b=aT\/N.turn a b<=2147483648):=by
 unfold ab.turn
 split
 .rename_i h;exact DL hok (ab.tab_ok hok (ab.to_lt hok h.1).1).1 _ _
 .exact⟨by decide,.inl rfl⟩
end
def ab.tr (N:ab) (a b:Nat):Option Nat:=if N.turn a b<aT then Y (N.turn a b).toNat else ω
def ab.ok (N:ab) (a:Nat):Bool:=decide (N.w a<aT)
def ab.wn (N:ab) (a:Nat):Nat:=(N.w a).toNat
def ab.e (N:ab) (a b:Nat):Option Nat:=eT N.tr N.ok N.wn a b
theorem ab.tr_some {N:ab}{a b x:Nat}:N.tr a b=Y x↔N.turn a b<aT/\x=(N.turn a b).toNat:=by
 unfold ab.tr;by_cases h:N.turn a b<aT
 .rw[if_pos h];simp[h,eq_comm]
 .rw[if_neg h];simp[h]
theorem ab.turn_in {N:ab}{a b:Nat}(h:N.turn a b<aT):a<N.na/\b<N.na/\N.to a=N.fr b:=by
 unfold ab.turn at h
 split at h
 .assumption
 .exact absurd h (by decide)
theorem ab.e_some {N:ab}{a b x:Nat}:N.e a b=Y x↔N.turn a b<aT/\N.w b<aT/\x=(N.turn a b).toNat+(N.w b).toNat:=by
 unfold ab.e;rw[uQ];constructor
 .rintro⟨t,h1,h2,rfl⟩;obtain⟨h3,rfl⟩:=ab.tr_some.1 h1;exact⟨h3,by simpa[ab.ok]using h2,rfl⟩
 .rintro⟨h1,h2,rfl⟩;exact⟨_,ab.tr_some.2 ⟨h1,rfl⟩,by simpa[ab.ok]using h2,rfl⟩
theorem ab.e_ends {N:ab}{a b x:Nat}(h:N.e a b=Y x):N.fr b=N.to a:=(ab.turn_in (ab.e_some.1 h).1).2.2.symm
def aG (p:List (List Int)) (k v:Nat):Nat:=((((p[k - 1]?).getD [])[v]?).getD 0).toNat
def ab.inA (N:ab) (p:List (List Int)) (k c a:Nat):Prop:=aG p k (N.to a)=c/\aG p k (N.fr a)≠c
def ab.outA (N:ab) (p:List (List Int)) (k c a:Nat):Prop:=aG p k (N.fr a)=c/\aG p k (N.to a)≠c
def ab.win (N:ab) (p:List (List Int)) (k c a:Nat):Prop:=aG p k (N.fr a)=c/\aG p k (N.to a)=c
structure qG (N:ab) (P:Nat->Prop) (a b:Nat) (v:Int):Prop where
 bd:0<=v/\v<=aT
 least:∀d c y,aA N.e P a d c->N.tr d b=Y y->v<=((c+y:Nat):Int)
 way:v<aT->∃d c y,aA N.e P a d c/\N.tr d b=Y y/\v=((c+y:Nat):Int)
def DM (N:ab) (p:List (List Int)) (ent:Nat->Nat->Nat->Int):Prop:=
 ∀k a b,1<=k->k<=p.length->a<N.na->b<N.na->N.inA p k (aG p k (N.to a)) a->N.outA p k (aG p k (N.to a)) b->qG N (N.win p k (aG p k (N.to a))) a b (ent k a b)
open Classical in
noncomputable def ab.lp (N:ab) (p:List (List Int)) (ent:Nat->Nat->Nat->Int) (lev:Nat->Nat) (a b:Nat):Option Nat:=
 if a<N.na/\b<N.na/\N.inA p (lev (N.to a)) (aG p (lev (N.to a)) (N.to a)) a/\N.outA p (lev (N.to a)) (aG p (lev (N.to a)) (N.to a)) b/\ent (lev (N.to a)) a b<aT/\N.w b<aT then Y ((ent (lev (N.to a)) a b).toNat+(N.w b).toNat) else ω
section
variable {N:ab}{p:List (List Int)}{ent:Nat->Nat->Nat->Int}
theorem gI (hp:aP N.nv p){l k u v:Nat}(h1:1<=l) (h2:l<=k) (h3:k<=p.length) (hu:u<N.nv) (hv:v<N.nv) (h:aG p l u=aG p l v):aG p k u=aG p k v:=by
 have get:∀j,1<=j->j<=p.length->∃r,p[j - 1]? = Y r/\r.length=N.nv/\∀x∈r,0<=x:=λj j1 j2=>by
  have:j - 1<p.length:=U;exact⟨p[j - 1],List.getElem?_eq_getElem this,hp.rows _ (List.getElem_mem this),λx hx=>(hp.inr _ (List.getElem_mem this) x hx).1⟩
 have val:∀j r,p[j - 1]? = Y r->r.length=N.nv->(∀x∈r,0<=x)->∀x,x<N.nv->∃y,r[x]? = Y y/\(aG p j x:Int)=y:=λj r h1 h2 h3 x hx=>by
  have hl:x<r.length:=U;refine⟨r[x],List.getElem?_eq_getElem hl,?_⟩;simp[aG,h1,List.getElem?_eq_getElem hl];have:=h3 _ (List.getElem_mem hl);omega
 induction k with
 | zero=>omega
 | succ k ih=>
  by_cases hk:l=k+1
  .subst hk;exact h
  .have h4:=ih U U;obtain⟨r1,g1,g2,g3⟩:=get k U U;obtain⟨r2,g4,g5,g6⟩:=get (k+1) U h3;obtain⟨y1,k1,k2⟩:=val _ _ g1 g2 g3 u hu;obtain⟨y2,k3,k4⟩:=val _ _ g1 g2 g3 v hv;obtain⟨y3,k5,k6⟩:=val _ _ g4 g5 g6 u hu;obtain⟨y4,k7,k8⟩:=val _ _ g4 g5 g6 v hv;have e1:y1=y2:=by rw[<-k2,<-k4,h4]
   subst e1;have:=(hp.nest (k - 1) r1 r2 g1 (by rw[show k - 1+1=k by omega];simpa using g4)).eq k1 k3 k5 k7;omega
theorem aA.mem {e:Nat->Nat->Option Nat}{P:Nat->Prop}{a d c:Nat}(h:aA e P a d c):d=a\/P d:=by
 cases h with
 | here=>exact .inl rfl
 | on _ _ h=>exact .inr h
theorem aA.start {e:Nat->Nat->Option Nat}{P:Nat->Prop}{a d c:Nat}(h:aA e P a d c):d=a\/∃b x,e a b=Y x:=by
 induction h with
 | here=>exact .inl rfl
 | @on b d c x hw he hp ih=>
  rcases ih with rfl | ih
  .exact .inr ⟨d,x,he⟩
  .exact .inr ih
end
end
section
open Go Go.RowKit
def bR (f:Nat->Nat):Nat->Nat
 | 0=>0
 | n+1=>bR f n+f n
theorem BG (f:Nat->Nat){a b:Nat}(h:a<=b):bR f a<=bR f b:=by
 induction b with
 | zero=>rw[Nat.le_zero.1 h];exact Nat.le_refl _
 | succ b ih=>
  by_cases e:a=b+1
  .subst e;exact Nat.le_refl _
  .exact Nat.le_trans (ih U) (Nat.le_add_right _ _)
theorem gJ (f:Nat->Nat){a b:Nat}(h:a<b):bR f a+f a<=bR f b:=BG f (a:=a+1) h
theorem FN {f:Nat->Nat}{m:Nat}(h:∀i,f i<=m) (n:Nat):bR f n<=n*m:=by
 induction n with
 | zero=>simp[bR]
 | succ n ih=>rw[bR,Nat.succ_mul];have:=h n;omega
def bU (f:Nat->Bool) (n:Nat):List Nat:=(List.range n).filter f
theorem it (f:Nat->Bool) (n:Nat):bU f (n+1)=if f n then bU f n ++ [n] else bU f n:=by
 simp only[bU,List.range_succ,List.filter_append];by_cases h:f n <;>simp[h]
theorem aL (f:Nat->Bool) (n:Nat):(bU f n).length<=n:=Nat.le_trans (List.length_filter_le _ _) (by simp)
theorem nM {f:Nat->Bool}{n a:Nat}:a∈bU f n↔a<n/\f a=true:=by simp[bU]
theorem bH (f:Nat->Bool) (n:Nat):(bU f n).Pairwise (· < ·):=List.Pairwise.filter _ List.pairwise_lt_range
theorem jH {l:List Nat}(h:l.Pairwise (· < ·)){i j a b:Nat}(hi:l[i]? = Y a) (hj:l[j]? = Y b) (hij:i<j):a<b:=by
 have h1:=(List.getElem?_eq_some_iff.1 hi);have h2:=(List.getElem?_eq_some_iff.1 hj);rw[<-h1.2,<-h2.2];exact List.pairwise_iff_getElem.1 h i j h1.1 h2.1 hij
theorem iu {l:List Nat}(h:l.Pairwise (· < ·)){i j a:Nat}(hi:l[i]? = Y a) (hj:l[j]? = Y a):i=j:=by
 rcases Nat.lt_trichotomy i j with g | g | g
 .exact absurd (jH h hi hj g) (Nat.lt_irrefl _)
 .exact g
 .exact absurd (jH h hj hi g) (Nat.lt_irrefl _)
def au (p:List (List Int)) (k:Nat):Nat:=(aO ((p[k - 1]?).getD [])).toNat
def ab.insB (N:ab) (p:List (List Int)) (k c a:Nat):Bool:=decide (aG p k (N.to a)=c) && decide (aG p k (N.fr a)≠c)
def ab.outsB (N:ab) (p:List (List Int)) (k c a:Nat):Bool:=decide (aG p k (N.fr a)=c) && decide (aG p k (N.to a)≠c)
def ab.ins (N:ab) (p:List (List Int)) (k c:Nat):List Nat:=bU (N.insB p k c) N.na
def ab.outs (N:ab) (p:List (List Int)) (k c:Nat):List Nat:=bU (N.outsB p k c) N.na
theorem ab.mem_ins {N:ab}{p:List (List Int)}{k c a:Nat}:a∈N.ins p k c↔a<N.na/\N.inA p k c a:=by
 simp[ab.ins,nM,ab.insB,ab.inA]
theorem ab.mem_outs {N:ab}{p:List (List Int)}{k c a:Nat}:a∈N.outs p k c↔a<N.na/\N.outA p k c a:=by
 simp[ab.outs,nM,ab.outsB,ab.outA]
def ab.sz (N:ab) (p:List (List Int)) (k c:Nat):Nat:=(N.ins p k c).length*(N.outs p k c).length
def ab.lsz (N:ab) (p:List (List Int)) (j:Nat):Nat:=bR (N.sz p (j+1)) (au p (j+1))
def ab.start (N:ab) (p:List (List Int)) (k c:Nat):Nat:=bR (N.lsz p) (k - 1)+bR (N.sz p k) c
def ab.size (N:ab) (p:List (List Int)):Nat:=bR (N.lsz p) p.length
section
variable {N:ab}{p:List (List Int)}
theorem ab.start_next {k c c':Nat}(h:c<c'):N.start p k c+N.sz p k c<=N.start p k c':=by
 have:=gJ (N.sz p k) h;unfold ab.start;omega
theorem ab.start_up {k k' c c':Nat}(hk:1<=k) (h:k<k') (hc:c<au p k):N.start p k c+N.sz p k c<=N.start p k' c':=by
 have h1:=gJ (N.sz p k) hc;have h2:=gJ (N.lsz p) (a:=k - 1) (b:=k' - 1) U;have h3:N.lsz p (k - 1)=bR (N.sz p k) (au p k):=by unfold ab.lsz;rw[show k - 1+1=k by omega]
 unfold ab.start;omega
theorem ab.start_end {k c:Nat}(hk:1<=k) (hkl:k<=p.length) (hc:c<au p k):N.start p k c+N.sz p k c<=N.size p:=by
 have h1:=gJ (N.sz p k) hc;have h2:=gJ (N.lsz p) (a:=k - 1) (b:=p.length) U;have h3:N.lsz p (k - 1)=bR (N.sz p k) (au p k):=by unfold ab.lsz;rw[show k - 1+1=k by omega]
 unfold ab.start ab.size;omega
theorem ab.start_lev {k:Nat}(hk:1<=k):N.start p (k+1) 0=N.start p k (au p k):=by
 unfold ab.start;obtain⟨j,rfl⟩:∃j,k=j+1:=⟨k - 1,U⟩;simp[bR,ab.lsz]
theorem ab.start_one:N.start p 1 0=0:=by simp[ab.start,bR]
theorem ab.start_cell {k c:Nat}:N.start p k (c+1)=N.start p k c+N.sz p k c:=by simp[ab.start,bR,Nat.add_assoc]
end
theorem qH {i j m n:Nat}(hi:i<m) (hj:j<n):i*n+j<m*n:=by
 have:(i+1)*n<=m*n:=Nat.mul_le_mul_right _ hi;rw[Nat.succ_mul]at this;omega
def at_ (costs:List Int) (i:Nat):Int:=(costs[i]?).getD 0
def bz (N:ab) (p:List (List Int)) (costs:List Int) (k c:Nat):Prop:=
 ∀i j a b,(N.ins p k c)[i]? = Y a->(N.outs p k c)[j]? = Y b->qG N (N.win p k c) a b (at_ costs (N.start p k c+(i*(N.outs p k c).length+j)))
def cZ (N:ab) (p:List (List Int)) (costs:List Int):Prop:=costs.length=N.size p/\∀k c,1<=k->k<=p.length->c<au p k->bz N p costs k c
def GV (N:ab) (p:List (List Int)) (k c:Nat) (l:List Int):Prop:=
 l.length=N.sz p k c/\∀i j a b,(N.ins p k c)[i]? = Y a->(N.outs p k c)[j]? = Y b->qG N (N.win p k c) a b (at_ l (i*(N.outs p k c).length+j))
def ab.ent (N:ab) (p:List (List Int)) (costs:List Int) (k a b:Nat):Int:=
 at_ costs (N.start p k (aG p k (N.to a))+((N.ins p k (aG p k (N.to a))).idxOf a*(N.outs p k (aG p k (N.to a))).length+(N.outs p k (aG p k (N.to a))).idxOf b))
theorem aW {l:List Nat}{a:Nat}(h:a∈l):l[l.idxOf a]? = Y a:=by
 have h1:=List.idxOf_lt_length_of_mem h;rw[List.getElem?_eq_getElem h1];simp
theorem fu {nv:Nat}{p:List (List Int)}(hp:aP nv p){k v:Nat}(h1:1<=k) (h2:k<=p.length) (hv:v<nv):aG p k v<au p k:=by
 have hk:k - 1<p.length:=U;have h3:p[k - 1]? = Y p[k - 1]:=List.getElem?_eq_getElem hk;have hl:=hp.rows _ (List.getElem_mem hk);have hv':v<p[k - 1].length:=U;have h4:p[k - 1][v]? = Y (p[k - 1][v]):=List.getElem?_eq_getElem hv';have h5:=nL (List.getElem_mem hv');have h6:=hp.inr _ (List.getElem_mem hk) _ (List.getElem_mem hv');unfold aG au;rw[h3,Option.getD_some,h4,Option.getD_some];omega
theorem cZ.entOk {N:ab}{p:List (List Int)}{costs:List Int}(hok:N.Ok) (hp:aP N.nv p) (h:cZ N p costs):DM N p (N.ent p costs):=by
 intro k a b h1 h2 ha hb hin hout;have hc:=fu hp h1 h2 (ab.to_lt hok ha).1;exact h.2 k _ h1 h2 hc _ _ a b (aW (ab.mem_ins.2 ⟨ha,hin⟩)) (aW (ab.mem_outs.2 ⟨hb,hout⟩))
def eD (costs l:List Int) (i:Nat):List Int:=costs.take i ++ l ++ costs.drop (i+l.length)
theorem sU {costs l:List Int}{i:Nat}(h:i+l.length<=costs.length):(eD costs l i).length=costs.length:=by
 simp[eD];omega
theorem DO {costs l:List Int}{i j:Nat}(h:i+l.length<=costs.length) (hj:j<l.length):at_ (eD costs l i) (i+j)=at_ l j:=by
 unfold at_ eD;rw[List.append_assoc,List.getElem?_append_right (by simp;omega)];rw[List.length_take,Nat.min_eq_left U,Nat.add_sub_cancel_left,List.getElem?_append_left hj]
theorem BH {costs l:List Int}{i j:Nat}(h:i+l.length<=costs.length) (hj:j<i\/i+l.length<=j):at_ (eD costs l i) j=at_ costs j:=by
 unfold at_ eD;rcases hj with hj | hj
 .rw[List.append_assoc,List.getElem?_append_left (by simp;omega),List.getElem?_take];simp[hj]
 .rw[List.getElem?_append_right (by simp;omega)];simp only[List.length_append,List.length_take];rw[Nat.min_eq_left U,List.getElem?_drop]
  congr 2
  omega
section
variable {N:ab}{p:List (List Int)}{costs l:List Int}
theorem bz.put (hl:costs.length=N.size p){k c:Nat}(h1:1<=k) (h2:k<=p.length) (hc:c<au p k) (h:GV N p k c l):bz N p (eD costs l (N.start p k c)) k c:=by
 intro i j a b hi hj;have h3:=ab.start_end (N:=N) h1 h2 hc;have h4:i*(N.outs p k c).length+j<l.length:=by rw[h.1];exact qH (List.getElem?_eq_some_iff.1 hi).1 (List.getElem?_eq_some_iff.1 hj).1
 rw[DO (by rw[h.1,hl];exact h3) h4];exact h.2 i j a b hi hj
theorem bz.putO (hl:costs.length=N.size p){k c k' c':Nat}(h1:1<=k) (h2:k<=p.length) (hc:c<au p k) (h:l.length=N.sz p k c) (h1':1<=k') (h2':k'<=p.length) (hc':c' < au p k') (hne:¬(k=k'/\c=c')) (hold:bz N p costs k' c') :
  bz N p (eD costs l (N.start p k c)) k' c':=by
 intro i j a b hi hj;have h3:=ab.start_end (N:=N) h1 h2 hc;have h4:i*(N.outs p k' c').length+j<N.sz p k' c':=qH (List.getElem?_eq_some_iff.1 hi).1 (List.getElem?_eq_some_iff.1 hj).1;rw[BH (by rw[h,hl];exact h3) ?_]
 .exact hold i j a b hi hj
 .rw[h];rcases Nat.lt_trichotomy k k' with g | g | g
  .have:=ab.start_up (N:=N) (c':=c') h1 g hc;omega
  .subst g;rcases Nat.lt_trichotomy c c' with g | g | g
   .have:=ab.start_next (N:=N) (p:=p) (k:=k) g;omega
   .exact absurd ⟨rfl,g⟩ hne
   .have:=ab.start_next (N:=N) (p:=p) (k:=k) g;omega
  .have:=ab.start_up (N:=N) (c':=c) h1' g hc';omega
end
end
section
open Go
def jI (c:Nat->Int) (a b:Nat):Prop:=c a<c b\/(c a=c b/\a<=b)
theorem jI.refl (c:Nat->Int) (a:Nat):jI c a a:=.inr ⟨rfl,Nat.le_refl _⟩
theorem jI.trans {c:Nat->Int}{a b d:Nat}(h:jI c a b) (k:jI c b d):jI c a d:=by
 unfold jI at *;omega
def sw (r:Nat->Nat) (i j:Nat):Nat->Nat:=λx=>if x=i then r j else if x=j then r i else r x
theorem BI (r:Nat->Nat) (i j:Nat):sw r i j i=r j:=by simp[sw]
theorem HJ (r:Nat->Nat) (i j:Nat):sw r i j j=r i:=by
 by_cases h:j=i
 .subst h;simp[sw]
 .simp[sw,h]
theorem rU (r:Nat->Nat){i j x:Nat}(h1:x≠i) (h2:x≠j):sw r i j x=r x:=by simp[sw,h1,h2]
def eO (c:Nat->Int) (r:Nat->Nat) (n:Nat):Prop:=∀j,0<j->j<n->jI c (r ((j - 1) / 2)) (r j)
structure E3 (c:Nat->Int) (r:Nat->Nat) (n i:Nat):Prop where
 one:∀j,0<j->j<n->j≠i->jI c (r ((j - 1) / 2)) (r j)
 two:∀j,0<j->j<n->(j - 1) / 2=i->0<i->jI c (r ((i - 1) / 2)) (r j)
structure gL (c:Nat->Int) (r:Nat->Nat) (n i:Nat):Prop where
 one:∀j,0<j->j<n->(j - 1) / 2≠i->jI c (r ((j - 1) / 2)) (r j)
 two:∀j,0<j->j<n->(j - 1) / 2=i->0<i->jI c (r ((i - 1) / 2)) (r j)
section
variable {c:Nat->Int}{r:Nat->Nat}{n i:Nat}
theorem E3.step (h:E3 c r n i) (hi:0<i) (hn:i<n) (hl:jI c (r i) (r ((i - 1) / 2))):E3 c (sw r i ((i - 1) / 2)) n ((i - 1) / 2):=by
 obtain⟨p,hp⟩:∃p,(i - 1) / 2=p:=⟨_,rfl⟩;rw[hp]at hl⊢;have hpi:p<i:=U;refine⟨λj h1 h2 h3=>?_,λj h1 h2 h3 h4=>?_⟩
 .by_cases e1:j=i
  .subst e1;rw[hp,HJ,BI];exact hl
  .rw[rU r e1 h3];by_cases e2:(j - 1) / 2=i
   .rw[e2,BI,<-hp];exact h.two j h1 h2 e2 hi
   .by_cases e3:(j - 1) / 2=p
    .rw[e3,HJ];have:=h.one j h1 h2 e1;rw[e3]at this;exact hl.trans this
    .rw[rU r e2 e3];exact h.one j h1 h2 e1
 .have e0:(p - 1) / 2≠i:=U;have e1:(p - 1) / 2≠p:=U;rw[rU r e0 e1];have h5:=h.one p h4 U U;by_cases e2:j=i
  .subst e2;rw[BI];exact h5
  .rw[rU r e2 U];have:=h.one j h1 h2 e2;rw[h3]at this;exact h5.trans this
theorem E3.done (h:E3 c r n i) (hl:i=0\/jI c (r ((i - 1) / 2)) (r i)):eO c r n:=λj h1 h2=>by
 by_cases e:j=i
 .subst e;rcases hl with h0 | h0
  .omega
  .exact h0
 .exact h.one j h1 h2 e
theorem gL.step (h:gL c r n i){m:Nat}(hm:(m - 1) / 2=i) (hm0:0<m) (hn:m<n) (hl:jI c (r m) (r i)) (ha:∀j,0<j->j<n->(j - 1) / 2=i->jI c (r m) (r j)):gL c (sw r i m) n m:=by
 have him:i<m:=U;refine⟨λj h1 h2 h3=>?_,λj h1 h2 h3 h4=>?_⟩
 .by_cases e1:(j - 1) / 2=i
  .rw[e1,BI];by_cases e2:j=m
   .subst e2;rw[HJ];exact hl
   .rw[rU r U e2];exact ha j h1 h2 e1
  .rw[rU r e1 h3];by_cases e2:j=i
   .subst e2;rw[BI];exact h.two m hm0 hn hm h1
   .rw[rU r e2 (λe=>e1 (by rw[e];exact hm))];exact h.one j h1 h2 e1
 .rw[hm,BI,rU r U U];have:=h.one j h1 h2 U;rw[h3]at this;exact this
theorem gL.done (h:gL c r n i) (ha:∀j,0<j->j<n->(j - 1) / 2=i->jI c (r i) (r j)):eO c r n:=λj h1 h2=>by
 by_cases e:(j - 1) / 2=i
 .rw[e];exact ha j h1 h2 e
 .exact h.one j h1 h2 e
theorem eO.top (h:eO c r n):∀j,j<n->jI c (r 0) (r j):=by
 intro j
 induction j using Nat.strongRecOn with
 | ind j ih=>
  intro hj;by_cases e:j=0
  .subst e;exact jI.refl _ _
  .exact(ih ((j - 1) / 2) U U).trans (h j U hj)
theorem eO.pop (h:eO c r (n+1)):gL c (sw r 0 n) n 0:=by
 refine⟨λj h1 h2 h3=>?_,λj h1 h2 h3 h4=>U⟩;rw[rU r h3 U,rU r U U];exact h j h1 U
theorem eO.put (h:eO c r n) (k:Nat):E3 c (λx=>if x=n then k else r x) (n+1) n:=by
 refine⟨λj h1 h2 h3=>?_,λj h1 h2 h3 h4=>U⟩;simp only[if_neg h3,if_neg (show(j - 1) / 2≠n by omega)];exact h j h1 U
theorem eO.other (h:eO c r n){k:Nat}{v:Int}(hk:∀j,j<n->r j≠k):eO (λx=>if x=k then v else c x) r n:=λj h1 h2=>by
 have:=h j h1 h2;unfold jI at this⊢;simp only[if_neg (hk j h2),if_neg (hk ((j - 1) / 2) U)];exact this
theorem eO.less (h:eO c r n){v:Int}(hi:i<n) (hv:v<=c (r i)) (hd:∀j,j<n->r j=r i->j=i):E3 (λx=>if x=r i then v else c x) r n i:=by
 refine⟨λj h1 h2 h3=>?_,λj h1 h2 h3 h4=>?_⟩
 .have h5:=h j h1 h2;have e1:r j≠r i:=λe=>h3 (hd j h2 e);unfold jI at h5⊢;simp only[if_neg e1];by_cases e2:(j - 1) / 2=i
  .rw[e2]at h5⊢;simp only[if_true];omega
  .have e3:r ((j - 1) / 2)≠r i:=λe=>e2 (hd _ U e);simp only[if_neg e3];exact h5
 .have h5:=h j h1 h2;have h6:=h i h4 hi;rw[h3]at h5;have h7:=h6.trans h5;have e1:r j≠r i:=λe=>by have:=hd j h2 e;omega
  have e3:r ((i - 1) / 2)≠r i:=λe=>by have:=hd _ U e;omega
  unfold jI at h7⊢;simp only[if_neg e1,if_neg e3];exact h7
end
end
section
open Go Go.RowKit
def ab.endsL (N:ab) (p:Bool):List (List Int):=(List.range N.nv).map λv=>ends N.xa N.na (p,v)
def ab.plL (N:ab):List (Int×Int):=(List.range N.na).map λa=>((N.inPl a:Int),(N.outPl a:Int))
section
variable {N:ab}
def ab.from_ (N:ab) (v:Nat):List Nat:=bU (hit N.xa true v) N.na
end
section
variable {N:ab}
theorem ab.from_ints (N:ab) (v:Nat):ends N.xa N.na (true,v)=(N.from_ v).map λa:Nat=>(a:Int):=rfl
end
section
variable {N:ab}
theorem ab.mem_from {N:ab}(hok:N.Ok){v a:Nat}:a∈N.from_ v↔a<N.na/\N.fr a=v:=by
 unfold ab.from_;rw[nM];constructor
 .rintro⟨h1,h2⟩;refine⟨h1,?_⟩;have h3:=(ab.fr_lt hok h1).2;simp[hit,N.arc_get h1]at h2;omega
 .rintro⟨h1,h2⟩;refine⟨h1,?_⟩;have h3:=(ab.fr_lt hok h1).2;simp[hit,N.arc_get h1];omega
end
section
variable {A:Option Addr}{l:List Nat}
def cE (l:List Nat) (a:Nat):Int:=if a∈l then(l.idxOf a:Int) else -1
end
def ints (l:List Nat):List Int:=l.map λx:Nat=>(x:Int)
def ab.gatesL (N:ab) (p:List (List Int)) (k:Nat):List (List Int×List Int):=(List.range (au p k)).map λc=>(ints (N.ins p k c),ints (N.outs p k c))
def ab.startsL (N:ab) (p:List (List Int)) (k:Nat):List Int:=(List.range (au p k)).map λc=>((N.start p k c:Nat):Int)
def eE (row:List Nat):List Int:=row.map λk:Nat=>(k:Int)
theorem dt {row:List Nat}{i k:Nat}(h:row[i]? = Y k):(eE row)[i]? = Y (k:Int):=by simp[eE,h]
theorem sV (row:List Nat) (i k:Nat):(eE row).set i (k:Int)=eE (row.set i k):=by simp[eE,List.map_set]
theorem yM (row:List Nat) (m:Nat):(eE row).take m=eE (row.take m):=by simp[eE,List.map_take]
def iv (N:Nat) (row:List Nat) (seats:List Int):Prop:=
 seats.length=N/\∀k,k<N->(∃p:Nat,row[p]? = Y k/\seats[k]? = Y ((p:Int)+1))\/(k ∉ row/\seats[k]? = Y 0)
theorem uS {l:List Nat}(h:∀(i j:Nat) (k:Nat),l[i]? = Y k->l[j]? = Y k->i=j):l.Nodup:=by
 refine List.pairwise_iff_getElem.2 λi j hi hj hij he=>?_;have:=h i j l[i] (List.getElem?_eq_getElem hi) (by rw[List.getElem?_eq_getElem hj,he]);omega
theorem dY {l:List Nat}(h:l.Nodup){i j k:Nat}(hi:l[i]? = Y k) (hj:l[j]? = Y k):i=j:=
 (List.getElem?_inj (List.getElem?_eq_some_iff.1 hi).1 h).1 (hi.trans hj.symm)
theorem jJ {l:List Nat}{N:Nat}(hn:l.Nodup) (h:∀k∈l,k<N):l.length<=N:=by
 induction N generalizing l with
 | zero=>
  cases l with
  | nil=>exact Nat.le_refl _
  | cons x l=>exact absurd (h x (by simp)) (Nat.not_lt_zero _)
 | succ N ih=>
  by_cases hm:N∈l
  .have h1:=ih (l:=l.erase N) (hn.erase N) (λk hk=>by
    have h2:=(List.Nodup.mem_erase_iff hn).1 hk;have:=h k h2.2;have:=h2.1;omega)
   rw[List.length_erase_of_mem hm]at h1;omega
  .have h1:=ih hn (λk hk=>by
    have:=h k hk;have:k≠N:=λe=>hm (e ▸ hk);omega)
   omega
section
variable {costs:List Int}
def kP (costs:List Int) (a b:Nat):Bool:=decide ((costs.getD a 0)<(costs.getD b 0)\/((costs.getD a 0)=(costs.getD b 0)/\a<b))
end
section
variable {row:List Nat}
def rr (row:List Nat) (i j:Nat):List Nat:=(row.set i (row.getD j 0)).set j (row.getD i 0)
end
section
variable {row:List Nat}
theorem jK (row:List Nat) (i j:Nat):(rr row i j).length=row.length:=by simp[rr]
end
section
variable {row:List Nat}
theorem dO {row:List Nat}{i j:Nat}(hi:i<row.length) (hj:j<row.length) (x:Nat):(rr row i j)[x]? = if x=i then row[j]? else if x=j then row[i]? else row[x]?:=by
 have e1:row.getD j 0=row[j]:=by simp[List.getD_eq_getElem?_getD,hj]
 have e2:row.getD i 0=row[i]:=by simp[List.getD_eq_getElem?_getD,hi]
 unfold rr;rw[List.getElem?_set,List.getElem?_set,e1,e2];by_cases h1:x=i
 .subst h1;by_cases h2:j=x
  .subst h2;simp[hj]
  .simp[h2,hi,hj]
 .by_cases h2:x=j
  .subst h2;have:¬x=i:=h1;simp[h1,hi,hj]
  .have h3:¬j=x:=λe=>h2 e.symm;have h4:¬i=x:=λe=>h1 e.symm;simp[h1,h2,h3,h4]
end
section
variable {h:Nat}{row:List Nat}
theorem lY {row:List Nat}{i j:Nat}(hi:i<row.length) (hj:j<row.length) (k:Nat):k∈rr row i j↔k∈row:=by
 constructor
 .intro h;obtain⟨x,hx⟩:=List.getElem?_of_mem h;rw[dO hi hj]at hx
  split at hx
  .exact List.mem_of_getElem? hx
  .split at hx
   .exact List.mem_of_getElem? hx
   .exact List.mem_of_getElem? hx
 .intro h;obtain⟨x,hx⟩:=List.getElem?_of_mem h;by_cases h1:x=i
  .subst h1;refine List.mem_of_getElem? (i:=j) ?_;rw[dO hi hj];by_cases h2:j=x
   .subst h2;simpa using hx
   .simpa[h2]using hx
  .by_cases h2:x=j
   .subst h2;exact List.mem_of_getElem? (i:=i) (by rw[dO hi hj,if_pos rfl];exact hx)
   .exact List.mem_of_getElem? (i:=x) (by rw[dO hi hj,if_neg h1,if_neg h2];exact hx)
end
section
variable {row:List Nat}
theorem BJ {row:List Nat}{i j:Nat}(hi:i<row.length) (hj:j<row.length) (hn:row.Nodup):(rr row i j).Nodup:=by
 refine uS λx y k hx hy=>?_;rw[dO hi hj]at hx hy;have inj:∀{a b:Nat},row[a]? = Y k->row[b]? = Y k->a=b:=λha hb=>dY hn ha hb;by_cases x1:x=i
 .by_cases y1:y=i
  .omega
  .rw[if_pos x1]at hx;rw[if_neg y1]at hy;by_cases y2:y=j
   .rw[if_pos y2]at hy;have:=inj hx hy;omega
   .rw[if_neg y2]at hy;exact absurd (inj hy hx) y2
 .rw[if_neg x1]at hx;by_cases x2:x=j
  .rw[if_pos x2]at hx;by_cases y1:y=i
   .rw[if_pos y1]at hy;have:=inj hx hy;omega
   .rw[if_neg y1]at hy;by_cases y2:y=j
    .omega
    .rw[if_neg y2]at hy;exact absurd (inj hy hx) y1
  .rw[if_neg x2]at hx;by_cases y1:y=i
   .rw[if_pos y1]at hy;exact absurd (inj hx hy) x2
   .rw[if_neg y1]at hy;by_cases y2:y=j
    .rw[if_pos y2]at hy;exact absurd (inj hx hy) x1
    .rw[if_neg y2]at hy;exact inj hx hy
end
section
variable {h N:Nat}{row:List Nat}{seats:List Int}
theorem DP {N:Nat}{row:List Nat}{seats:List Int}{i j a b:Nat}(h:iv N row seats) (hn:row.Nodup) (hlt:∀k∈row,k<N) (hi:row[i]? = Y a) (hj:row[j]? = Y b) :
  iv N (rr row i j) ((seats.set b ((i:Int)+1)).set a ((j:Int)+1)):=by
 have li:=(List.getElem?_eq_some_iff.1 hi).1;have lj:=(List.getElem?_eq_some_iff.1 hj).1;have la:=hlt a (List.mem_of_getElem? hi);have lb:=hlt b (List.mem_of_getElem? hj);refine⟨by simp[h.1],λk hk=>?_⟩;rw[List.getElem?_set,List.getElem?_set];simp only[List.length_set,h.1];by_cases e1:a=k
 .subst e1;refine .inl ⟨j,?_,by simp[la]⟩;rw[dO li lj];by_cases e2:j=i
  .subst e2;simp[hi]
  .simp[e2,hi]
 .by_cases e2:b=k
  .subst e2;refine .inl ⟨i,?_,by simp[e1,lb]⟩;rw[dO li lj,if_pos rfl,hj]
  .simp only[if_neg e1,if_neg e2];rcases h.2 k hk with⟨p,h1,h2⟩ | ⟨h1,h2⟩
   .refine .inl ⟨p,?_,h2⟩;have p1:p≠i:=λe=>by subst e;rw[hi]at h1;injection h1 with h1;exact e1 h1
    have p2:p≠j:=λe=>by subst e;rw[hj]at h1;injection h1 with h1;exact e2 h1
    rw[dO li lj,if_neg p1,if_neg p2];exact h1
   .exact .inr ⟨λhm=>h1 ((lY li lj k).1 hm),h2⟩
end
def kQ (costs:List Int) (k:Nat):Int:=costs.getD k 0
def rt (row:List Nat) (x:Nat):Nat:=row.getD x 0
theorem cJ {row:List Nat}{i a:Nat}(h:row[i]? = Y a):rt row i=a:=by simp[rt,List.getD_eq_getElem?_getD,h]
theorem yN {row:List Nat}{i j:Nat}(hi:i<row.length) (hj:j<row.length):rt (rr row i j)=sw (rt row) i j:=by
 funext x
 unfold rt sw;rw[List.getD_eq_getElem?_getD,dO hi hj];by_cases h1:x=i
 .simp[h1,List.getD_eq_getElem?_getD]
 .by_cases h2:x=j
  .subst h2;simp[h1,List.getD_eq_getElem?_getD]
  .simp[h1,h2,List.getD_eq_getElem?_getD]
theorem sW {costs:List Int}{a b:Nat}(h:kP costs a b=true):jI (kQ costs) a b:=by
 simp[kP]at h;unfold jI kQ;simp only[List.getD_eq_getElem?_getD]at h⊢;omega
theorem wL {costs:List Int}{a b:Nat}(h:kP costs a b=false):jI (kQ costs) b a:=by
 simp[kP]at h;unfold jI kQ;simp only[List.getD_eq_getElem?_getD]at h⊢;omega
structure ee (c:Nat->Int) (r:Nat->Nat) (n k j m:Nat):Prop where
 who:m=k\/(2*k+1<=m/\m<=2*k+2/\m<j/\m<n)
 own:jI c (r m) (r k)
 kid:∀x,2*k+1<=x->x<j->x<n->jI c (r m) (r x)
theorem ee.start (c:Nat->Int) (r:Nat->Nat) (n k:Nat):ee c r n k (2*k+1) k:=⟨.inl rfl,jI.refl _ _,λx h1 h2 _=>U⟩
theorem ee.yes {c:Nat->Int}{r:Nat->Nat}{n k j m:Nat}(h:ee c r n k j m) (hj:2*k+1<=j) (hj2:j<=2*k+2) (hn:j<n) (hl:jI c (r j) (r m)):ee c r n k (j+1) j:=
 ⟨.inr ⟨hj,hj2,U,hn⟩,hl.trans h.own,λx h1 h2 h3=>by
  by_cases e:x=j
  .subst e;exact jI.refl _ _
  .exact hl.trans (h.kid x h1 U h3)⟩
theorem ee.no {c:Nat->Int}{r:Nat->Nat}{n k j m:Nat}(h:ee c r n k j m) (hl:jI c (r m) (r j)):ee c r n k (j+1) m:=
 ⟨by rcases h.who with h | ⟨a,b,c,d⟩;exact .inl h;exact .inr ⟨a,b,U,d⟩,h.own,λx h1 h2 h3=>by
  by_cases e:x=j
  .subst e;exact hl
  .exact h.kid x h1 U h3⟩
def DQ (row:List Nat) (costs:List Int) (q:Nat->Option Nat):Prop:=∀k,q k=if k∈row then Y (kQ costs k).toNat else ω
section
variable {h:Nat}
theorem uT {costs:List Int}{k:Nat}{c:Int}(hk:k<costs.length):kQ (costs.set k c)=λx=>if x=k then c else kQ costs x:=by
 funext x
 unfold kQ;rw[List.getD_eq_getElem?_getD,List.getElem?_set];by_cases h:k=x
 .subst h;simp[hk]
 .have:¬x=k:=λe=>h e.symm;simp[h,this,List.getD_eq_getElem?_getD]
end
theorem DR {costs:List Int}{k:Nat}{c:Int}(hk:k<costs.length) (x:Nat):kQ (costs.set k c) x=if x=k then c else kQ costs x:=by rw[uT hk]
section
variable {h:Nat}{q:Nat->Option Nat}
theorem DQ.new {row row':List Nat}{costs:List Int}{k:Nat}{c:Int}(h:DQ row costs q) (hk:k<costs.length) (hn:k ∉ row) (hm:∀x,x∈row'↔x∈row\/x=k):DQ row' (costs.set k c) (iS q k c.toNat)/\fU q k c.toNat=true:=by
 have hq:q k=none:=by rw[h k,if_neg hn]
 refine⟨λx=>?_,by simp[fU,hq]⟩;rw[DR hk];unfold iS;by_cases hx:x=k
 .subst hx;rw[if_pos rfl,hq,if_pos ((hm x).2 (.inr rfl)),if_pos rfl]
 .rw[if_neg hx,if_neg hx,h x];by_cases hr:x∈row
  .rw[if_pos hr,if_pos ((hm x).2 (.inl hr))]
  .rw[if_neg hr,if_neg (λhh=>((hm x).1 hh).elim hr hx)]
end
section
variable {h:Nat}{q:Nat->Option Nat}
theorem DQ.less {row row':List Nat}{costs:List Int}{k:Nat}{c:Int}(h:DQ row costs q) (hk:k<costs.length) (hn:k∈row) (hm:∀x,x∈row'↔x∈row) (hc0:0<=c) (hc:c<kQ costs k):DQ row' (costs.set k c) (iS q k c.toNat)/\fU q k c.toNat=true:=by
 have hq:q k=Y (kQ costs k).toNat:=by rw[h k,if_pos hn]
 refine⟨λx=>?_,by simp[fU,hq];omega⟩;rw[DR hk];unfold iS;by_cases hx:x=k
 .subst hx;rw[if_pos rfl,hq,if_pos ((hm x).2 hn),if_pos rfl];simp only[Option.some.injEq];omega
 .rw[if_neg hx,if_neg hx,h x];by_cases hr:x∈row
  .rw[if_pos hr,if_pos ((hm x).2 hr)]
  .rw[if_neg hr,if_neg (λhh=>hr ((hm x).1 hh))]
end
section
variable {h:Nat}{q:Nat->Option Nat}
theorem DQ.same {row:List Nat}{costs:List Int}{k:Nat}{c:Int}(h:DQ row costs q) (hn:k∈row) (hc0:0<=kQ costs k) (hc:kQ costs k<=c):DQ row costs (iS q k c.toNat)/\fU q k c.toNat=false:=by
 have hq:q k=Y (kQ costs k).toNat:=by rw[h k,if_pos hn]
 refine⟨λx=>?_,by simp[fU,hq];omega⟩;unfold iS;by_cases hx:x=k
 .subst hx;rw[if_pos rfl,hq,if_pos hn];simp only[Option.some.injEq];omega
 .rw[if_neg hx];exact h x
end
section
variable {h:Nat}
theorem DS (row:List Nat) (k:Nat):rt (row ++ [k])=λx=>if x=row.length then k else rt row x:=by
 funext x
 unfold rt;rw[List.getD_eq_getElem?_getD,List.getElem?_append];by_cases h:x<row.length
 .have:¬x=row.length:=U;simp[h,this,List.getD_eq_getElem?_getD]
 .by_cases h2:x=row.length
  .subst h2;simp
  .have h3:x - row.length≠0:=U;obtain⟨y,hy⟩:∃y,x - row.length=y+1:=⟨x - row.length - 1,U⟩;simp[h,h2,hy,List.getD_eq_getElem?_getD,List.getElem?_eq_none (show row.length<=x by omega)]
end
section
variable {h N:Nat}
theorem BK {N:Nat}{row:List Nat}{seats:List Int}{k:Nat}(h:iv N row seats) (hk:k<N) (hn:k ∉ row):iv N (row ++ [k]) (seats.set k ((row.length:Int)+1)):=by
 refine⟨by simp[h.1],λx hx=>?_⟩;rw[List.getElem?_set];by_cases e:k=x
 .subst e;exact .inl ⟨row.length,by simp,by simp[h.1,hk]⟩
 .rw[if_neg e];rcases h.2 x hx with⟨p,h1,h2⟩ | ⟨h1,h2⟩
  .exact .inl ⟨p,by rw[List.getElem?_append_left (List.getElem?_eq_some_iff.1 h1).1];exact h1,h2⟩
  .exact .inr ⟨by simp[h1];exact λe2=>e e2.symm,h2⟩
end
theorem gL.congr {c:Nat->Int}{r r':Nat->Nat}{n i:Nat}(h:gL c r n i) (hr:∀x,x<n->r' x=r x):gL c r' n i:=by
 refine⟨λj h1 h2 h3=>?_,λj h1 h2 h3 h4=>?_⟩
 .rw[hr j h2,hr ((j - 1) / 2) U];exact h.one j h1 h2 h3
 .rw[hr j h2,hr ((i - 1) / 2) U];exact h.two j h1 h2 h3 h4
theorem BL {N m k:Nat}{row:List Nat}{seats:List Int}(h:iv N row seats) (hn:row.Nodup) (hl:row.length=m+1) (hk:row[m]? = Y k) (hkN:k<N):iv N (row.take m) (seats.set k 0):=by
 refine⟨by simp[h.1],λx hx=>?_⟩;rw[List.getElem?_set];have hnot:k ∉ row.take m:=λhm=>by
  obtain⟨p,hp⟩:=List.getElem?_of_mem hm;rw[List.getElem?_take]at hp
  split at hp
  .have:=dY hn hp hk;omega
  .cases hp
 by_cases e:k=x
 .subst e;exact .inr ⟨hnot,by simp[h.1,hkN]⟩
 .rw[if_neg e];rcases h.2 x hx with⟨p,h1,h2⟩ | ⟨h1,h2⟩
  .have hp:=(List.getElem?_eq_some_iff.1 h1).1;have hpm:p<m:=by
    rcases Nat.lt_or_ge p m with g | g
    .exact g
    .have:p=m:=U;subst this;rw[hk]at h1;injection h1 with h1;exact absurd h1 e
   exact .inl ⟨p,by rw[List.getElem?_take];simp[hpm,h1],h2⟩
  .exact .inr ⟨λhm=>h1 (List.mem_of_mem_take hm),h2⟩
theorem FO {row:List Nat}{m k x:Nat}(hn:row.Nodup) (hl:row.length=m+1) (hk:row[m]? = Y k):x∈row.take m↔x∈row/\x≠k:=by
 constructor
 .intro hm;refine⟨List.mem_of_mem_take hm,λe=>?_⟩;subst e;obtain⟨p,hp⟩:=List.getElem?_of_mem hm;rw[List.getElem?_take]at hp
  split at hp
  .have:=dY hn hp hk;omega
  .cases hp
 .rintro⟨h1,h2⟩;obtain⟨p,hp⟩:=List.getElem?_of_mem h1;have hpl:=(List.getElem?_eq_some_iff.1 hp).1;have hpm:p<m:=by
   rcases Nat.lt_or_ge p m with g | g
   .exact g
   .have:p=m:=U;subst this;rw[hk]at hp;injection hp with hp;exact absurd hp.symm h2
  exact List.mem_of_getElem? (i:=p) (by rw[List.getElem?_take];simp[hpm,hp])
end
section
open Go Go.RowKit
def eP (a:Int):Int:=if a<0 then 0 else if 1152921504606846976<a then 1152921504606846976 else a
theorem dP {a:Int}(h0:0<=a) (h:a<=1152921504606846976):eP a=a:=by unfold eP;rw[if_neg U,if_neg U]
theorem gN (a:Int):0<=eP a/\eP a<=1152921504606846976:=by
 unfold eP
 split
 .omega
 .split <;>omega
def iU (a b:Int):Int:=eP (eP a+eP b)
theorem BM (a:Int):eP a=min (max a 0) 1152921504606846976:=by
 unfold eP
 split
 .omega
 .split <;>omega
theorem jm (a b:Int):iU a b=min (eP a+eP b) 1152921504606846976:=by
 have h1:=gN a;have h2:=gN b;rw[iU,BM];omega
def kR (l:List Int):Int:=l.foldl iU 0
theorem wM (l:List Int) (x:Int):kR (l ++ [x])=iU (kR l) x:=by simp[kR]
theorem BN {l:List Int}{k:Nat}{x:Int}(h:l[k]? = Y x):kR (l.take (k+1))=iU (kR (l.take k)) x:=by
 rw[List.take_add_one,h];exact wM _ _
end
section
open Go Go.RowKit
end
section
open Go Go.RowKit
abbrev cm:=Int×Int×Int
def fv (l:List cm):List (Nat×Nat):=l.filterMap λs=>if 0<=s.2.1 then ω else Y (s.1.toNat,s.2.2.toNat)
def iw (l:List cm):List (Nat×Nat):=l.filterMap λs=>if 0<=s.2.1 then Y (s.2.1.toNat,s.2.2.toNat) else ω
def eF (steps:Nat->List cm) (q r:Nat):Option Nat:=((fv (steps q)).find? λx=>x.1 == r).map (·.2)
structure j9 (n outs M:Nat) (steps:Nat->List cm):Prop where
 inn:∀q r x,q<n->(r,x)∈fv (steps q)->r<n/\x<=M
 out:∀q o y,q<n->(o,y)∈iw (steps q)->o<outs/\y<=M
 one:∀q r x x',q<n->(r,x)∈fv (steps q)->(r,x')∈fv (steps q)->x=x'
 pos:∀q s,q<n->s∈steps q->0<=s.2.2/\s.2.2<=M/\(s.2.1<0->0<=s.1/\s.1<n)/\s.2.1<outs
theorem uU {steps:Nat->List cm}{q r x:Nat}(h:eF steps q r=Y x):(r,x)∈fv (steps q):=by
 unfold eF at h;cases hf:(fv (steps q)).find? (λx=>x.1 == r) with
 | none=>rw[hf]at h;cases h
 | some y=>
  rw[hf]at h;simp at h;have h1:=List.mem_of_find?_eq_some hf;have h2:=List.find?_some hf;obtain⟨a,b⟩:=y;simp at h2 h;subst h2 h;exact h1
theorem j9.get {n outs M:Nat}{steps:Nat->List cm}(h:j9 n outs M steps){q r x:Nat}(hq:q<n) (hm:(r,x)∈fv (steps q)):eF steps q r=Y x:=by
 cases hf:(fv (steps q)).find? (λx=>x.1 == r) with
 | none=>
  have:=List.find?_eq_none.1 hf _ hm;simp at this
 | some y=>
  have h1:eF steps q r=Y y.2:=by simp[eF,hf]
  rw[h1,h.one q r _ _ hq (uU h1) hm]
def fz (done:Nat->Option Nat) (sum:Nat) (st:List Int×(Nat->Option Nat)) (s:cm):List Int×(Nat->Option Nat):=
 if 0<=s.2.1 then(st.1.set s.2.1.toNat (min (at_ st.1 s.2.1.toNat) (sum+s.2.2)),st.2)
 else if done s.1.toNat=ω then(st.1,iS st.2 s.1.toNat (sum+s.2.2.toNat)) else st
def dT (done:Nat->Option Nat) (sum:Nat) (l:List cm) (st:List Int×(Nat->Option Nat)):List Int×(Nat->Option Nat):=l.foldl (fz done sum) st
theorem lZ (done:Nat->Option Nat) (sum a:Nat):∀(l:List cm) (row:List Int) (q:Nat->Option Nat) (par:Nat->Nat),
  (dT done sum l (row,q)).2=(dg done a ((fv l).map λx=>(x.1,sum+x.2)) (q,par)).1
 | [],row,q,par=>rfl
 | s :: l,row,q,par=>by
  unfold dT dg;rw[List.foldl_cons];by_cases h:0<=s.2.1
  .have e1:fv (s :: l)=fv l:=by simp[fv,h]
   rw[e1,fz,if_pos h];exact lZ done sum a l _ q par
  .have e1:fv (s :: l)=(s.1.toNat,s.2.2.toNat) :: fv l:=by simp[fv,h]
   rw[e1,fz,if_neg h,List.map_cons,List.foldl_cons];by_cases hd:done s.1.toNat=ω
   .simp only[hd,if_true,dL];exact lZ done sum a l row _ _
   .simp only[hd,if_false,dL];exact lZ done sum a l row q par
theorem HK {row:List Int}{i j:Nat}{v:Int}(hi:i<row.length):at_ (row.set i v) j=if i=j then v else at_ row j:=by
 unfold at_;rw[List.getElem?_set];by_cases h:i=j
 .subst h;simp[hi]
 .simp[h]
theorem nP (done:Nat->Option Nat) (sum:Nat):∀(l:List cm) (row:List Int) (q:Nat->Option Nat),(∀s∈l,s.2.1<row.length/\0<=s.2.2)->
  (dT done sum l (row,q)).1.length=row.length/\(∀j,at_ (dT done sum l (row,q)).1 j<=at_ row j)/\
   (∀j y,(j,y)∈iw l->at_ (dT done sum l (row,q)).1 j<=((sum+y:Nat):Int))/\
   (∀j,at_ (dT done sum l (row,q)).1 j=at_ row j\/∃y,(j,y)∈iw l/\at_ (dT done sum l (row,q)).1 j=((sum+y:Nat):Int))
 | [],row,q,h=>⟨rfl,λ_=>Int.le_refl _,(λj y h=>by cases h),λ_=>.inl rfl⟩
 | s :: l,row,q,h=>by
  have hs:=h s (by simp);have hl:=λs hs=>h s (List.mem_cons_of_mem _ hs);have e0:dT done sum (s :: l) (row,q)=dT done sum l (fz done sum (row,q) s):=rfl;rw[e0];by_cases ho:0<=s.2.1
  .have e1:iw (s :: l)=(s.2.1.toNat,s.2.2.toNat) :: iw l:=by simp[iw,ho]
   have e2:fz done sum (row,q) s=(row.set s.2.1.toNat (min (at_ row s.2.1.toNat) (sum+s.2.2)),q):=by rw[fz,if_pos ho]
   have hlt:s.2.1.toNat<row.length:=U;rw[e2,e1];obtain⟨g1,g2,g3,g4⟩:=nP done sum l (row.set s.2.1.toNat (min (at_ row s.2.1.toNat) (sum+s.2.2))) q (λx hx=>by rw[List.length_set];exact hl x hx);have hset:=λj=>HK (j:=j) (v:=min (at_ row s.2.1.toNat) (sum+s.2.2)) hlt;refine⟨by rw[g1,List.length_set],λj=>?_,λj y hj=>?_,λj=>?_⟩
   .have:=g2 j;rw[hset j]at this
    split at this
    .rename_i hj;subst hj;omega
    .exact this
   .rcases List.mem_cons.1 hj with hj | hj
    .injection hj with h1 h2;subst h1 h2;have:=g2 s.2.1.toNat;rw[hset,if_pos rfl]at this;omega
    .exact g3 j y hj
   .rcases g4 j with h1 | ⟨y,h1,h2⟩
    .rw[h1,hset j]
     split
     .rename_i hj;subst hj;by_cases hm:at_ row s.2.1.toNat<=sum+s.2.2
      .left;omega
      .right;exact⟨s.2.2.toNat,by simp,U⟩
     .exact .inl rfl
    .exact .inr ⟨y,List.mem_cons_of_mem _ h1,h2⟩
  .have e1:iw (s :: l)=iw l:=by simp[iw,ho]
   obtain⟨q',e2⟩:∃q',fz done sum (row,q) s=(row,q'):=by
    rw[fz,if_neg ho]
    split
    .exact⟨_,rfl⟩
    .exact⟨_,rfl⟩
   rw[e2,e1];exact nP done sum l row q' hl
structure fA (outs:Nat) (steps:Nat->List cm) (done:Nat->Option Nat) (row:List Int):Prop where
 len:row.length=outs
 bd:∀j,j<outs->0<=at_ row j/\at_ row j<=aT
 lo:∀q c j y,done q=Y c->(j,y)∈iw (steps q)->at_ row j<=((c+y:Nat):Int)
 hi:∀j,j<outs->at_ row j<aT->∃q c y,done q=Y c/\(j,y)∈iw (steps q)/\at_ row j=((c+y:Nat):Int)
theorem fA.start (outs:Nat) (steps:Nat->List cm):fA outs steps (λ_=>ω) (List.replicate outs aT):=
 ⟨by simp,(λj hj=>by simp[at_,hj,aT]),(λq c j y h=>by cases h),(λj hj h=>by simp[at_,hj]at h)⟩
theorem fA.round {n outs M:Nat}{steps:Nat->List cm}(hf:j9 n outs M steps){done q:Nat->Option Nat}{row:List Int}(h:fA outs steps done row){k c:Nat}(hk:k<n) (hd:done k=ω) :
  fA outs steps (upd done k (Y c)) (dT (upd done k (Y c)) c (steps k) (row,q)).1:=by
 obtain⟨g1,g2,g3,g4⟩:=nP (upd done k (Y c)) c (steps k) row q λs hs=>by
  have:=hf.pos k s hk hs;rw[h.len];exact⟨this.2.2.2,this.1⟩
 refine⟨by rw[g1,h.len],λj hj=>⟨?_,?_⟩,λq' c' j y hq hy=>?_,λj hj hlt=>?_⟩
 .rcases g4 j with h1 | ⟨y,-,h1⟩
  .rw[h1];exact(h.bd j hj).1
  .rw[h1];omega
 .exact Int.le_trans (g2 j) (h.bd j hj).2
 .by_cases e:q' = k
  .subst e;simp[upd]at hq;subst hq;exact g3 j y hy
  .simp[upd,e]at hq;exact Int.le_trans (g2 j) (h.lo q' c' j y hq hy)
 .rcases g4 j with h1 | ⟨y,h2,h1⟩
  .rw[h1]at hlt⊢;obtain⟨q',c',y,h3,h4,h5⟩:=h.hi j hj hlt;have e:q'≠k:=λe=>by subst e;rw[hd]at h3;cases h3
   exact⟨q',c',y,by simp[upd,e,h3],h4,h5⟩
  .exact⟨k,c,y,by simp[upd],h2,h1⟩
def sX (outs:Nat) (steps:Nat->List cm) (st:Nat) (row:List Int):Prop:=
 row.length=outs/\∀j,j<outs->(0<=at_ row j/\at_ row j<=aT)/\(∀q c y,ch (eF steps) st q c->(j,y)∈iw (steps q)->at_ row j<=((c+y:Nat):Int))/\
  (at_ row j<aT->∃q c y,ch (eF steps) st q c/\(j,y)∈iw (steps q)/\at_ row j=((c+y:Nat):Int))
theorem fA.done {outs:Nat}{steps:Nat->List cm}{st:Nat}{done q:Nat->Option Nat}{row:List Int}(h:fA outs steps done row) (hd:qE bl (eF steps) st done q) (hq:∀b,q b=ω):sX outs steps st row:=by
 refine⟨h.len,λj hj=>⟨h.bd j hj,λq' c y hg hy=>?_,λhlt=>?_⟩⟩
 .have L:=hd.ends hq q';by_cases hc:c<bl
  .have hle:=L.least c hg;cases hdq:done q' with
   | none=>rw[hdq]at hle;simp at hle;omega
   | some c'=>
    rw[hdq]at hle;simp at hle;have:=h.lo q' c' j y hdq hy;omega
  .have:=(h.bd j hj).2;unfold aT bl at *;omega
 .obtain⟨q',c,y,h1,h2,h3⟩:=h.hi j hj hlt;exact⟨q',c,y,(hd.fin q' c h1).2.1,h2,h3⟩
def IE (M cnt:Nat) (q:Nat->Option Nat):Prop:=∀b c,q b=Y c->c<=M*cnt
theorem IE.round {M cnt:Nat}{done q:Nat->Option Nat}{k c a:Nat}{l:List (Nat×Nat)}{par:Nat->Nat}(h:IE M cnt q) (hk:q k=Y c) (hl:∀b y,(b,y)∈l->y<=c+M):IE M (cnt+1) (dg done a l (del q k,par)).1:=by
 intro b c' hb;have hc:=h k c hk;rw[Nat.mul_succ];rcases jC l _ hb with⟨h1,-⟩ | ⟨-,h2,-⟩
 .simp only[del]at h1;by_cases hbk:b=k
  .simp[hbk]at h1
  .rw[if_neg hbk]at h1;have:=h b c' h1;omega
 .have:=hl b c' h2;omega
end
section
open Go Go.RowKit
structure iy (N:ab) (p:List (List Int)) (c:Nat) (L:List Nat) (steps:Nat->List cm):Prop where
 nodup:∀(i j a:Nat),L[i]? = Y a->L[j]? = Y a->i=j
 pre:∀(i a:Nat),(N.ins p 1 c)[i]? = Y a->L[i]? = Y a
 mem:∀a,a∈L->a<N.na/\aG p 1 (N.to a)=c
 inn:∀(i a r x:Nat),L[i]? = Y a->((r,x)∈fv (steps i)↔∃b,L[r]? = Y b/\N.turn a b<aT/\b ∉ N.outs p 1 c/\N.w b<aT/\x=(N.turn a b).toNat+(N.w b).toNat)
 all:∀(i a b:Nat),L[i]? = Y a->N.turn a b<aT->b ∉ N.outs p 1 c->N.w b<aT->b∈L
 out:∀(i a o y:Nat),L[i]? = Y a->((o,y)∈iw (steps i)↔∃b,(N.outs p 1 c)[o]? = Y b/\N.turn a b<aT/\y=(N.turn a b).toNat)
section
variable {N:ab}{p:List (List Int)}{c:Nat}{L:List Nat}{steps:Nat->List cm}{M:Nat}
theorem iy.there (h:iy N p c L steps){i a:Nat}(hi:L[i]? = Y a){q x:Nat}(hg:ch (eF steps) i q x):∃d,L[q]? = Y d/\aA N.e (N.win p 1 c) a d x:=by
 induction hg with
 | here=>exact⟨a,hi,.here⟩
 | @on q r x y hg he ih=>
  obtain⟨d,h1,h2⟩:=ih;obtain⟨b,g1,g2,g3,g4,rfl⟩:=(h.inn q d r y h1).1 (uU he);refine⟨b,g1,h2.on (ab.e_some.2 ⟨g2,g4,rfl⟩) ?_⟩;have hb:=ab.turn_in g2;have hd:=(h.mem d (List.mem_of_getElem? h1)).2;have hf:aG p 1 (N.fr b)=c:=by rw[<-hb.2.2];exact hd
  exact⟨hf,(h.mem b (List.mem_of_getElem? g1)).2⟩
theorem iy.back (h:iy N p c L steps){i a:Nat}(hi:L[i]? = Y a)
  (get:∀(q r x:Nat),(∃d,L[q]? = Y d)->(r,x)∈fv (steps q)->eF steps q r=Y x){d x:Nat}(hw:aA N.e (N.win p 1 c) a d x):∃q,L[q]? = Y d/\ch (eF steps) i q x:=by
 induction hw with
 | here=>exact⟨i,hi,.here⟩
 | @on d b x y hw he hp ih=>
  obtain⟨q,h1,h2⟩:=ih;obtain⟨g1,g2,rfl⟩:=ab.e_some.1 he;have hno:b ∉ N.outs p 1 c:=λhb=>(ab.mem_outs.1 hb).2.2 hp.2;obtain⟨r,hr⟩:=List.getElem?_of_mem (h.all q d b h1 g1 hno g2);exact⟨r,hr,h2.on (get q r _ ⟨d,h1⟩ ((h.inn q d r _ h1).2 ⟨b,hr,g1,hno,g2,rfl⟩))⟩
theorem iy.row (h:iy N p c L steps){outs:Nat}(hF:j9 L.length outs M steps){i a:Nat}(ha:(N.ins p 1 c)[i]? = Y a) (ho:(N.outs p 1 c).length=outs){row:List Int}(hr:sX outs steps i row){j b:Nat}(hb:(N.outs p 1 c)[j]? = Y b) :
  qG N (N.win p 1 c) a b (at_ row j):=by
 have hj:j<outs:=by rw[<-ho];exact(List.getElem?_eq_some_iff.1 hb).1
 obtain⟨r1,r2,r3⟩:=hr.2 j hj;have hi:=h.pre i a ha;refine⟨r1,λd x y hw hy=>?_,λhlt=>?_⟩
 .obtain⟨q,h1,h2⟩:=h.back hi (λq r x hd hm=>hF.get (by obtain⟨d,hd⟩:=hd;exact(List.getElem?_eq_some_iff.1 hd).1) hm) hw;obtain⟨g1,rfl⟩:=ab.tr_some.1 hy;exact r2 q x _ h2 ((h.out q d j _ h1).2 ⟨b,hb,g1,rfl⟩)
 .obtain⟨q,x,y,h1,h2,h3⟩:=r3 hlt;obtain⟨d,h4,h5⟩:=h.there hi h1;obtain⟨b',g1,g2,rfl⟩:=(h.out q d j y h4).1 h2;rw[hb]at g1;injection g1 with g1;subst g1;exact⟨d,x,_,h5,ab.tr_some.2 ⟨g2,rfl⟩,h3⟩
end
end
section
open Go Go.RowKit
def ab.kidIn (N:ab) (p:List (List Int)) (k c a:Nat):Prop:=a<N.na/\aG p k (N.to a)=c/\N.inA p (k - 1) (aG p (k - 1) (N.to a)) a
structure iA (N:ab) (p:List (List Int)) (k c:Nat) (ent:Nat->Nat->Nat->Int) (L:List Nat) (starts:List Nat) (steps:Nat->List cm):Prop where
 mem:∀a,a∈L↔N.kidIn p k c a
 start:∀(i a:Nat),(N.ins p k c)[i]? = Y a->∃q:Nat,starts[i]? = Y q/\L[q]? = Y a
 inn:∀(i a r x:Nat),L[i]? = Y a->((r,x)∈fv (steps i)↔∃m,L[r]? = Y m/\m∈N.outs p (k - 1) (aG p (k - 1) (N.to a))/\m ∉ N.outs p k c/\ent (k - 1) a m<aT/\N.w m<aT/\x=(ent (k - 1) a m).toNat+(N.w m).toNat)
 out:∀(i a o y:Nat),L[i]? = Y a->((o,y)∈iw (steps i)↔∃b,(N.outs p k c)[o]? = Y b/\b∈N.outs p (k - 1) (aG p (k - 1) (N.to a))/\ent (k - 1) a b<aT/\y=(ent (k - 1) a b).toNat)
open Classical in
noncomputable def Jd (N:ab) (p:List (List Int)) (k c:Nat) (ent:Nat->Nat->Nat->Int) (a m:Nat):Option Nat:=
 if N.kidIn p k c a/\m∈N.outs p (k - 1) (aG p (k - 1) (N.to a))/\m ∉ N.outs p k c/\ent (k - 1) a m<aT/\N.w m<aT then Y ((ent (k - 1) a m).toNat+(N.w m).toNat) else ω
open Classical in
noncomputable def KT (N:ab) (p:List (List Int)) (k c:Nat) (ent:Nat->Nat->Nat->Int) (a b:Nat):Option Nat:=
 if N.kidIn p k c a/\b∈N.outs p k c/\b∈N.outs p (k - 1) (aG p (k - 1) (N.to a))/\ent (k - 1) a b<aT then Y (ent (k - 1) a b).toNat else ω
section
variable {N:ab}{p:List (List Int)}{k c:Nat}{ent:Nat->Nat->Nat->Int}
theorem ma {a m x:Nat}:Jd N p k c ent a m=Y x↔N.kidIn p k c a/\m∈N.outs p (k - 1) (aG p (k - 1) (N.to a))/\m ∉ N.outs p k c/\ent (k - 1) a m<aT/\N.w m<aT/\x=(ent (k - 1) a m).toNat+(N.w m).toNat:=by
 unfold Jd
 split
 .rename_i h;simp only[Option.some.injEq];exact⟨λe=>⟨h.1,h.2.1,h.2.2.1,h.2.2.2.1,h.2.2.2.2,e.symm⟩,λe=>e.2.2.2.2.2.symm⟩
 .rename_i h;exact⟨λe=>by(cases e),λe=>absurd ⟨e.1,e.2.1,e.2.2.1,e.2.2.2.1,e.2.2.2.2.1⟩ h⟩
theorem mb {a b x:Nat}:KT N p k c ent a b=Y x↔N.kidIn p k c a/\b∈N.outs p k c/\b∈N.outs p (k - 1) (aG p (k - 1) (N.to a))/\ent (k - 1) a b<aT/\x=(ent (k - 1) a b).toNat:=by
 unfold KT
 split
 .rename_i h;simp only[Option.some.injEq];exact⟨λe=>⟨h.1,h.2.1,h.2.2.1,h.2.2.2,e.symm⟩,λe=>e.2.2.2.2.symm⟩
 .rename_i h;exact⟨λe=>by(cases e),λe=>absurd ⟨e.1,e.2.1,e.2.2.1,e.2.2.2.1⟩ h⟩
def pA (N:ab) (p:List (List Int)) (k c:Nat) (ent:Nat->Nat->Nat->Int):Prop:=
 ∀a b,N.kidIn p k c a->b∈N.outs p (k - 1) (aG p (k - 1) (N.to a))->qG N (N.win p (k - 1) (aG p (k - 1) (N.to a))) a b (ent (k - 1) a b)
theorem DT (hok:N.Ok) (hp:aP N.nv p) (hk:2<=k) (hkl:k<=p.length) (he:pA N p k c ent):Kids bl N.e N.tr N.fr N.to (aG p (k - 1)) (N.win p k c) (λa=>aG p k (N.to a)=c) (Jd N p k c ent) (KT N p k c ent):=by
 have up:∀{u v:Nat},u<N.nv->v<N.nv->aG p (k - 1) u=aG p (k - 1) v->aG p k u=aG p k v:=λhu hv h=>gI hp U U hkl hu hv h;have ft:∀{a:Nat},a<N.na->N.fr a<N.nv/\N.to a<N.nv:=λha=>⟨(ab.fr_lt hok ha).1,(ab.to_lt hok ha).1⟩;have ein:∀{d b x:Nat},N.e d b=Y x->d<N.na/\b<N.na:=λh=>⟨(ab.turn_in (ab.e_some.1 h).1).1,(ab.turn_in (ab.e_some.1 h).1).2.1⟩;have kidw:∀{a:Nat},N.kidIn p k c a->∀{d x:Nat},aA N.e (N.win p (k - 1) (aG p (k - 1) (N.to a))) a d x->aA N.e (j8 N.fr N.to (aG p (k - 1)) (N.win p k c) a) a d x:=fun {a} ha {d x} hw=>by
  induction hw with
  | here=>exact .here
  | @on d b x y hw he' hwin ih=>
   refine ih.on he' ⟨⟨?_,?_⟩,hwin.1,hwin.2⟩
   .rw[up (ft (ein he').2).1 (ft ha.1).2 hwin.1];exact ha.2.1
   .rw[up (ft (ein he').2).2 (ft ha.1).2 hwin.2];exact ha.2.1
 have start:∀{a d x b y:Nat},aA N.e (j8 N.fr N.to (aG p (k - 1)) (N.win p k c) a) a d x->(N.turn d b<aT)->a<N.na:=fun {a d x b y} hw ht=>by
  rcases hw.start with rfl | ⟨b',x',hx⟩
  .exact(ab.turn_in ht).1
  .exact(ein hx).1
 have toC:∀{a d x b:Nat},a<N.na->aA N.e (j8 N.fr N.to (aG p (k - 1)) (N.win p k c) a) a d x->N.turn d b<aT->aG p (k - 1) (N.fr b)=aG p (k - 1) (N.to a):=fun {a d x b} ha hw ht=>by
  have h1:=(ab.turn_in ht).2.2;rw[<-h1];rcases hw.mem with rfl | hm
  .rfl
  .exact hm.2.2
 refine⟨λa b x h=>ab.e_ends h,λa m x h=>?_,λa b x h=>?_,λa d x m y hin hw hy hPC hf ht hI=>?_,λm h=>h.2,λa d x b y hC hin hw hy hb hI=>?_⟩
 .obtain⟨h1,h2,h3,h4,h5,rfl⟩:=ma.1 h;obtain⟨d,x,y,g1,g2,g3⟩:=(he a m h1 h2).way h4;obtain⟨g4,rfl⟩:=ab.tr_some.1 g2;have hm:=ab.mem_outs.1 h2;have hfm:aG p k (N.fr m)=c:=by rw[up (ft hm.1).1 (ft h1.1).2 hm.2.1];exact h1.2.1
  have htm:aG p k (N.to m)=c:=by
   by_cases hc:aG p k (N.to m)=c
   .exact hc
   .exact absurd (ab.mem_outs.2 ⟨hm.1,hfm,hc⟩) h3
  exact⟨d,x,_,kidw h1 g1,ab.e_some.2 ⟨g4,h5,rfl⟩,⟨hfm,htm⟩,U⟩
 .obtain⟨h1,h2,h3,h4,rfl⟩:=mb.1 h;obtain⟨d,x,y,g1,g2,g3⟩:=(he a b h1 h3).way h4;exact⟨d,x,y,kidw h1 g1,g2,U⟩
 .obtain⟨k1,k2,rfl⟩:=ab.e_some.1 hy;have ha:=start (y:=0) hw k1;have hm:=(ab.turn_in k1).2.1;have hka:N.kidIn p k c a:=⟨ha,by rw[<-up (ft hm).1 (ft ha).2 hf];exact hPC.1,rfl,hin⟩;have hmo:m∈N.outs p (k - 1) (aG p (k - 1) (N.to a)):=ab.mem_outs.2 ⟨hm,hf,ht⟩;have T:=he a m hka hmo;have h5:=T.least d x _ (hw.mono λd hd=>⟨hd.2.1,hd.2.2⟩) (ab.tr_some.2 ⟨k1,rfl⟩);have h6:=T.bd;refine⟨_,ma.2 ⟨hka,hmo,λho=>(ab.mem_outs.1 ho).2.2 hPC.2,?_,k2,rfl⟩,?_⟩
  .unfold aT bl at *;omega
  .omega
 .obtain⟨k1,rfl⟩:=ab.tr_some.1 hy;have ha:=start (y:=0) hw k1;have hbn:=(ab.turn_in k1).2.1;have hfb:=toC ha hw k1;have hka:N.kidIn p k c a:=⟨ha,hC,rfl,hin⟩;have hfc:aG p k (N.fr b)=c:=by rw[up (ft hbn).1 (ft ha).2 hfb];exact hC
  have htc:aG p k (N.to b)≠c:=λh=>hb ⟨hfc,h⟩;have hbo:b∈N.outs p (k - 1) (aG p (k - 1) (N.to a)):=ab.mem_outs.2 ⟨hbn,hfb,λh=>htc (by rw[up (ft hbn).2 (ft ha).2 h];exact hC)⟩;have T:=he a b hka hbo;have h5:=T.least d x _ (hw.mono λd hd=>⟨hd.2.1,hd.2.2⟩) (ab.tr_some.2 ⟨k1,rfl⟩);have h6:=T.bd;refine⟨_,mb.2 ⟨hka,ab.mem_outs.2 ⟨hbn,hfc,htc⟩,hbo,?_,rfl⟩,?_⟩
  .unfold aT bl at *;omega
  .omega
variable {L starts:List Nat}{steps:Nat->List cm}{M outs:Nat}
theorem iA.there (h:iA N p k c ent L starts steps){i a:Nat}(hi:L[i]? = Y a){q x:Nat}(hg:ch (eF steps) i q x):∃d,L[q]? = Y d/\ch (Jd N p k c ent) a d x:=by
 induction hg with
 | here=>exact⟨a,hi,.here⟩
 | @on q r x y hg he ih=>
  obtain⟨d,h1,h2⟩:=ih;obtain⟨m,g1,g2,g3,g4,g5,rfl⟩:=(h.inn q d r y h1).1 (uU he);exact⟨m,g1,h2.on (ma.2 ⟨(h.mem d).1 (List.mem_of_getElem? h1),g2,g3,g4,g5,rfl⟩)⟩
theorem iA.back (h:iA N p k c ent L starts steps) (hF:j9 L.length outs M steps) (hin:∀a m,N.kidIn p k c a->m∈N.outs p (k - 1) (aG p (k - 1) (N.to a))->m ∉ N.outs p k c->N.kidIn p k c m){i a:Nat}(hi:L[i]? = Y a){d x:Nat}(hw:ch (Jd N p k c ent) a d x) :
  ∃q,L[q]? = Y d/\ch (eF steps) i q x:=by
 induction hw with
 | here=>exact⟨i,hi,.here⟩
 | @on d m x y hw he ih=>
  obtain⟨q,h1,h2⟩:=ih;obtain⟨g1,g2,g3,g4,g5,rfl⟩:=ma.1 he;obtain⟨r,hr⟩:=List.getElem?_of_mem ((h.mem m).2 (hin d m g1 g2 g3));exact⟨r,hr,h2.on (hF.get (List.getElem?_eq_some_iff.1 h1).1 ((h.inn q d r _ h1).2 ⟨m,hr,g2,g3,g4,g5,rfl⟩))⟩
theorem iA.row (hok:N.Ok) (hp:aP N.nv p) (hk:2<=k) (hkl:k<=p.length) (he:pA N p k c ent) (h:iA N p k c ent L starts steps) (hF:j9 L.length outs M steps){i q0 a:Nat}(ha:(N.ins p k c)[i]? = Y a) (hq0:starts[i]? = Y q0)
  (ho:(N.outs p k c).length=outs){row:List Int}(hr:sX outs steps q0 row){j b:Nat}(hb:(N.outs p k c)[j]? = Y b):qG N (N.win p k c) a b (at_ row j):=by
 have hj:j<outs:=by rw[<-ho];exact(List.getElem?_eq_some_iff.1 hb).1
 obtain⟨r1,r2,r3⟩:=hr.2 j hj;obtain⟨q',s1,s2⟩:=h.start i a ha;rw[hq0]at s1;injection s1 with s1;subst s1;have hka:=(h.mem a).1 (List.mem_of_getElem? s2);have hbo:=ab.mem_outs.1 (List.mem_of_getElem? hb);have hin:∀a m,N.kidIn p k c a->m∈N.outs p (k - 1) (aG p (k - 1) (N.to a))->m ∉ N.outs p k c->N.kidIn p k c m:=λa m h1 h2 h3=>by
  have hm:=ab.mem_outs.1 h2;have hfm:aG p k (N.fr m)=c:=by rw[gI hp (l:=k - 1) U U hkl (ab.fr_lt hok hm.1).1 (ab.to_lt hok h1.1).1 hm.2.1];exact h1.2.1
  refine⟨hm.1,?_,rfl,λe=>hm.2.2 (by rw[<-e];exact hm.2.1)⟩;by_cases hc:aG p k (N.to m)=c
  .exact hc
  .exact absurd (ab.mem_outs.2 ⟨hm.1,hfm,hc⟩) h3
 have KL:=DT hok hp hk hkl he;have hlaw:=KL.law (a:=a) (b:=b) (v:=(at_ row j).toNat) hka.2.1 hka.2.2.2 (λh=>hbo.2.2 h.2) (by unfold aT bl at *;omega) (λd x y hg hy=>?_) (λhlt=>?_)
 .refine⟨r1,λd x y hw hy=>?_,λhlt=>?_⟩
  .have:=hlaw.1 d x y hw hy;omega
  .obtain⟨d,x,y,g1,g2,g3⟩:=hlaw.2 (by unfold aT bl at *;omega);exact⟨d,x,y,g1,g2,U⟩
 .obtain⟨g1,g2,g3,g4,rfl⟩:=mb.1 hy;obtain⟨q,h1,h2⟩:=h.back hF hin s2 hg;have:=r2 q x _ h2 ((h.out q d j _ h1).2 ⟨b,hb,g3,g4,rfl⟩);omega
 .obtain⟨q,x,y,h1,h2,h3⟩:=r3 (by unfold aT bl at *;omega);obtain⟨d,h4,h5⟩:=h.there s2 h1;obtain⟨b',g1,g2,g3,rfl⟩:=(h.out q d j y h4).1 h2;rw[hb]at g1;injection g1 with g1;subst g1;exact⟨d,x,_,h5,mb.2 ⟨(h.mem d).1 (List.mem_of_getElem? h4),ab.mem_outs.2 hbo,g2,g3,rfl⟩,U⟩
end
end
section
open Go Go.RowKit
section
variable {e:Nat->Nat->Option Nat}{P:Nat->Prop}{a b d t c x:Nat}
theorem aA.pre (he:e a b=Y x) (hb:P b) (h:aA e P b t c):aA e P a t (x+c):=by
 induction h with
 | here=>simpa using aA.on (.here:aA e P a a 0) he hb
 | on _ he' hp ih=>rw[<-Nat.add_assoc];exact .on ih he' hp
theorem aA.first (h:aA e P a t c):(t=a/\c=0)\/∃b x c',e a b=Y x/\P b/\aA e P b t c'/\c=x+c':=by
 induction h with
 | here=>exact .inl ⟨rfl,rfl⟩
 | @on b' d' c' y hw he hp ih=>
  rcases ih with⟨rfl,rfl⟩ | ⟨b,x,c1,h1,h2,h3,rfl⟩
  .exact .inr ⟨d',y,0,he,hp,.here,U⟩
  .exact .inr ⟨b,x,c1+y,h1,h2,.on h3 he hp,U⟩
theorem aA.last (h:aA e P a t c):∃c',aA e (λv=>P v/\v≠a) a t c'/\c'<=c:=by
 induction h with
 | here=>exact⟨0,.here,Nat.le_refl _⟩
 | @on b' d' c' y hw he hp ih=>
  by_cases h0:d' = a
  .subst h0;exact⟨0,.here,Nat.zero_le _⟩
  .obtain⟨c1,h1,h2⟩:=ih;exact⟨c1+y,.on h1 he ⟨hp,h0⟩,U⟩
theorem aA.short {M:Nat}(hM:∀a b x,e a b=Y x->x<=M):∀(k:Nat) (L:List Nat),L.length<=k->∀{a t c:Nat},aA e (λv=>v∈L) a t c->∃c',aA e (λv=>v∈L) a t c'/\c'<=c/\c'<=M*k
 | 0,L,hL,a,t,c,h=>by
  rcases h.first with⟨rfl,rfl⟩ | ⟨b,x,c',h1,h2,h3,rfl⟩
  .exact⟨0,.here,Nat.le_refl _,Nat.zero_le _⟩
  .have:L = []:=List.eq_nil_of_length_eq_zero U;subst this;cases h2
 | k+1,L,hL,a,t,c,h=>by
  rcases h.first with⟨rfl,rfl⟩ | ⟨b,x,c',h1,h2,h3,rfl⟩
  .exact⟨0,.here,Nat.le_refl _,Nat.zero_le _⟩
  .obtain⟨c1,g1,g2⟩:=h3.last;have hlt:(L.filter λv=>decide (v≠b)).length<L.length:=List.length_filter_lt_length_iff_exists.2 ⟨b,h2,by simp⟩;obtain⟨c2,g3,g4,g5⟩:=aA.short hM k (L.filter λv=>decide (v≠b)) U (g1.mono (Q:=λv=>v∈L.filter λv=>decide (v≠b)) λv hv=>by simp;exact hv);have hx:=hM a b x h1;refine⟨x+c2,aA.pre h1 h2 (g3.mono λv hv=>?_),U,?_⟩
   .simp at hv;exact hv.1
   .rw[Nat.mul_succ];omega
end
theorem qG.top {N:ab}(hok:N.Ok){P:Nat->Prop}{a b:Nat}{v:Int}(h:qG N P a b v) (hv:v<aT):v<=4294967296*((N.na:Int)+1):=by
 obtain⟨d,c,y,h1,h2,h3⟩:=h.way hv;have he:∀a b x,N.e a b=Y x->x<=4294967296:=λa b x hx=>by
  obtain⟨g1,g2,rfl⟩:=ab.e_some.1 hx;have t1:=ab.turn_bd hok a b;have t2:=ab.w_bd hok b;unfold aT at *;omega
 classical
 have hP:aA N.e (λv=>v∈(List.range N.na).filter λv=>decide (P v)) a d c:=by
  clear h2 h3
  induction h1 with
  | here=>exact .here
  | on _ hx hp ih=>exact .on ih hx (by simp only[List.mem_filter,List.mem_range,decide_eq_true_eq];exact⟨(ab.turn_in (ab.e_some.1 hx).1).2.1,hp⟩)
 obtain⟨c',g1,g2,g3⟩:=aA.short he N.na _ (Nat.le_trans (List.length_filter_le _ _) (by simp)) hP;have g4:=h.least d c' y (g1.mono λv hv=>by simp only[List.mem_filter,List.mem_range,decide_eq_true_eq]at hv;exact hv.2) h2;obtain⟨t1,rfl⟩:=ab.tr_some.1 h2;have t2:=ab.turn_bd hok d b;have g5:(c':Int)<=4294967296*(N.na:Int):=by
  have:=g3;omega
 unfold aT at *;omega
end
section
open Go Go.RowKit
def ab.aIn (N:ab) (outs:List Nat) (a b:Nat):Prop:=N.turn a b<aT/\b ∉ outs/\N.w b<aT
def ab.aStep (N:ab) (outs L:List Nat) (a b:Nat):Option cm:=
 if aT<=N.turn a b then ω else if b∈outs then Y (0,((outs.idxOf b:Nat):Int),N.turn a b) else if aT<=N.w b then ω else Y (((L.idxOf b:Nat):Int),-1,N.turn a b+N.w b)
def ab.aRow (N:ab) (outs L:List Nat) (a:Nat) (bs:List Nat):List cm:=bs.filterMap (N.aStep outs L a)
theorem mc {α β:Type}{f g:α->Option β}:∀{l:List α},(∀x∈l,f x=g x)->l.filterMap f=l.filterMap g
 | [],_=>rfl
 | x :: l,h=>by
  rw[List.filterMap_cons,List.filterMap_cons,h x (by simp),mc λy hy=>h y (List.mem_cons_of_mem _ hy)]
section
variable {N:ab}{p:List (List Int)}{c:Nat}{outs L M:List Nat}{a b:Nat}
theorem BO (h:N.aIn outs a b->b∈L):N.aStep outs (L ++ M) a b=N.aStep outs L a b:=by
 unfold ab.aStep;by_cases h1:aT<=N.turn a b
 .rw[if_pos h1,if_pos h1]
 .rw[if_neg h1,if_neg h1];by_cases h2:b∈outs
  .rw[if_pos h2,if_pos h2]
  .rw[if_neg h2,if_neg h2];by_cases h3:aT<=N.w b
   .rw[if_pos h3,if_pos h3]
   .rw[if_neg h3,if_neg h3,List.idxOf_append,if_pos (h ⟨Int.not_le.1 h1,h2,Int.not_le.1 h3⟩)]
theorem wN {bs:List Nat}(h:∀b∈bs,N.aIn outs a b->b∈L):N.aRow outs (L ++ M) a bs=N.aRow outs L a bs:=
 mc λb hb=>BO (h b hb)
theorem sY {bs:List Nat}{k:Nat}(hk:bs[k]? = Y b):N.aRow outs L a (bs.take (k+1))=N.aRow outs L a (bs.take k) ++ (N.aStep outs L a b).toList:=by
 unfold ab.aRow;rw[List.take_add_one,hk,List.filterMap_append];cases h:N.aStep outs L a b <;>simp[List.filterMap_cons,h]
theorem sZ {N:ab}(hok:N.Ok){a b:Nat}(h:N.turn a b<aT):b∈N.from_ (N.to a):=by
 obtain⟨h1,h2,h3⟩:=ab.turn_in h;exact(ab.mem_from hok).2 ⟨h2,h3.symm⟩
structure iB (N:ab) (p:List (List Int)) (c:Nat) (L:List Nat) (i:Nat) (S:List (List cm)):Prop where
 pre:∃M,L=N.ins p 1 c ++ M
 nodup:L.Nodup
 mem:∀a,a∈L->a<N.na/\aG p 1 (N.to a)=c
 le:i<=L.length
 rows:S.length=i/\∀j a,j<i->L[j]? = Y a->S[j]? = Y (N.aRow (N.outs p 1 c) L a (N.from_ (N.to a)))
 closed:∀j a b,j<i->L[j]? = Y a->N.aIn (N.outs p 1 c) a b->b∈L
variable {i:Nat}{S:List (List cm)}
theorem iB.start (N:ab) (p:List (List Int)) (c:Nat):iB N p c (N.ins p 1 c) 0 []:=
 ⟨⟨[],by simp⟩,List.Pairwise.imp (λh=>Nat.ne_of_lt h) (bH _ _),λa ha=>⟨(ab.mem_ins.1 ha).1,(ab.mem_ins.1 ha).2.1⟩,Nat.zero_le _,⟨rfl,λj a h=>absurd h (Nat.not_lt_zero _)⟩,λj a b h=>absurd h (Nat.not_lt_zero _)⟩
theorem iB.len (h:iB N p c L i S):L.length<=N.na:=jJ h.nodup λa ha=>(h.mem a ha).1
theorem iB.one (h:iB N p c L i S){r q:Nat}(h1:L[r]? = Y a) (h2:L[q]? = Y a):r=q:=dY h.nodup h1 h2
theorem iB.idx (h:iB N p c L i S){r:Nat}(h1:L[r]? = Y b):L.idxOf b=r:=h.one (aW (List.mem_of_getElem? h1)) h1
theorem iB.add (h:iB N p c L i S) (hok:N.Ok){r:Nat}(ha:L[r]? = Y a) (hb:N.aIn (N.outs p 1 c) a b) (hn:b ∉ L):iB N p c (L ++ [b]) i S:=by
 obtain⟨M,hM⟩:=h.pre;obtain⟨t1,t2,t3⟩:=ab.turn_in hb.1;have hca:=(h.mem a (List.mem_of_getElem? ha)).2;have hcb:aG p 1 (N.to b)=c:=by
  by_cases e:aG p 1 (N.to b)=c
  .exact e
  .exact absurd (ab.mem_outs.2 ⟨t2,by rw[<-t3];exact hca,e⟩) hb.2.1
 have hlt:∀{j:Nat}{y:Nat},j<i->(L ++ [b])[j]? = Y y->L[j]? = Y y:=fun {j y} hj hy=>by
  have:=h.le
  rwa [List.getElem?_append_left U]at hy
 refine⟨⟨M ++ [b],by rw[hM,List.append_assoc]⟩,?_,λy hy=>?_,by have:=h.le;simp;omega,⟨h.rows.1,λj y hj hy=>?_⟩,λj y z hj hy hz=>?_⟩
 .refine List.nodup_append.2 ⟨h.nodup,by simp,λy hy z hz e=>?_⟩;simp at hz;subst hz;subst e;exact hn hy
 .rcases List.mem_append.1 hy with hy | hy
  .exact h.mem y hy
  .simp at hy;subst hy;exact⟨t2,hcb⟩
 .have hy':=hlt hj hy;rw[wN λz _ hz=>h.closed j y z hj hy' hz];exact h.rows.2 j y hj hy'
 .exact List.mem_append_left _ (h.closed j y z hj (hlt hj hy) hz)
theorem iB.next (h:iB N p c L i S) (hok:N.Ok) (ha:L[i]? = Y a) (hc:∀b∈N.from_ (N.to a),N.aIn (N.outs p 1 c) a b->b∈L):iB N p c L (i+1) (S ++ [N.aRow (N.outs p 1 c) L a (N.from_ (N.to a))]):=by
 have hi:=(List.getElem?_eq_some_iff.1 ha).1;refine⟨h.pre,h.nodup,h.mem,hi,⟨by simp[h.rows.1],λj y hj hy=>?_⟩,λj y z hj hy hz=>?_⟩
 .by_cases e:j=i
  .subst e;rw[ha]at hy;injection hy with hy;subst hy;rw[List.getElem?_append_right (by rw[h.rows.1];exact Nat.le_refl _),h.rows.1,Nat.sub_self];rfl
  .rw[List.getElem?_append_left (by rw[h.rows.1];omega)];exact h.rows.2 j y U hy
 .by_cases e:j=i
  .subst e;rw[ha]at hy;injection hy with hy;subst hy;exact hc z (sZ hok hz.1) hz
  .exact h.closed j y z U hy hz
def cL (S:List (List cm)) (q:Nat):List cm:=(S[q]?).getD []
theorem iC {s:cm}(h:N.aStep outs L a b=Y s):N.turn a b<aT/\((b∈outs/\s=(0,((outs.idxOf b:Nat):Int),N.turn a b))\/(b ∉ outs/\N.w b<aT/\s=(((L.idxOf b:Nat):Int),-1,N.turn a b+N.w b))):=by
 unfold ab.aStep at h;by_cases h1:aT<=N.turn a b
 .rw[if_pos h1]at h;cases h
 .rw[if_neg h1]at h;refine⟨Int.not_le.1 h1,?_⟩;by_cases h2:b∈outs
  .rw[if_pos h2]at h;injection h with h;exact .inl ⟨h2,h.symm⟩
  .rw[if_neg h2]at h;by_cases h3:aT<=N.w b
   .rw[if_pos h3]at h;cases h
   .rw[if_neg h3]at h;injection h with h;exact .inr ⟨h2,Int.not_le.1 h3,h.symm⟩
theorem qI (h:N.aIn outs a b):N.aStep outs L a b=Y (((L.idxOf b:Nat):Int),-1,N.turn a b+N.w b):=by
 unfold ab.aStep;rw[if_neg (Int.not_le.2 h.1),if_neg h.2.1,if_neg (Int.not_le.2 h.2.2)]
theorem tc (h1:N.turn a b<aT) (h2:b∈outs):N.aStep outs L a b=Y (0,((outs.idxOf b:Nat):Int),N.turn a b):=by
 unfold ab.aStep;rw[if_neg (Int.not_le.2 h1),if_pos h2]
theorem wO {l:List cm}{r x:Nat}:(r,x)∈fv l↔∃s∈l,s.2.1<0/\r=s.1.toNat/\x=s.2.2.toNat:=by
 unfold fv;rw[List.mem_filterMap];constructor
 .rintro⟨s,hs,he⟩;by_cases h0:0<=s.2.1
  .rw[if_pos h0]at he;cases he
  .rw[if_neg h0]at he;injection he with he;injection he with e1 e2;exact⟨s,hs,U,e1.symm,e2.symm⟩
 .rintro⟨s,hs,h0,rfl,rfl⟩;exact⟨s,hs,by rw[if_neg U]⟩
theorem wP {l:List cm}{o y:Nat}:(o,y)∈iw l↔∃s∈l,0<=s.2.1/\o=s.2.1.toNat/\y=s.2.2.toNat:=by
 unfold iw;rw[List.mem_filterMap];constructor
 .rintro⟨s,hs,he⟩;by_cases h0:0<=s.2.1
  .rw[if_pos h0]at he;injection he with he;injection he with e1 e2;exact⟨s,hs,h0,e1.symm,e2.symm⟩
  .rw[if_neg h0]at he;cases he
 .rintro⟨s,hs,h0,rfl,rfl⟩;exact⟨s,hs,by rw[if_pos h0]⟩
theorem iB.fld (h:iB N p c L L.length S) (hok:N.Ok):iy N p c L (cL S)/\j9 L.length (N.outs p 1 c).length 4294967296 (cL S):=by
 have row:∀{q a:Nat},L[q]? = Y a->cL S q=N.aRow (N.outs p 1 c) L a (N.from_ (N.to a)):=fun {q a} hq=>by
  unfold cL;rw[h.rows.2 q a (List.getElem?_eq_some_iff.1 hq).1 hq];rfl
 have memrow:∀{q a:Nat}{s:cm},L[q]? = Y a->(s∈cL S q↔∃b,N.aStep (N.outs p 1 c) L a b=Y s):=fun {q a s} hq=>by
  rw[row hq];unfold ab.aRow;rw[List.mem_filterMap];constructor
  .rintro⟨b,_,hb⟩;exact⟨b,hb⟩
  .rintro⟨b,hb⟩;exact⟨b,sZ hok (iC hb).1,hb⟩
 have inn:∀(i a r x:Nat),L[i]? = Y a->((r,x)∈fv (cL S i)↔∃b,L[r]? = Y b/\N.turn a b<aT/\b ∉ N.outs p 1 c/\N.w b<aT/\x=(N.turn a b).toNat+(N.w b).toNat):=λi a r x hi=>by
  rw[wO];constructor
  .rintro⟨s,hs,h0,rfl,rfl⟩;obtain⟨b,hb⟩:=(memrow hi).1 hs;obtain⟨t1,⟨_,rfl⟩ | ⟨t2,t3,rfl⟩⟩:=iC hb
   .simp only at h0;omega
   .have hbL:=h.closed i a b (List.getElem?_eq_some_iff.1 hi).1 hi ⟨t1,t2,t3⟩;have hb1:=ab.turn_bd hok a b;have hb2:=ab.w_bd hok b;exact⟨b,by simpa using aW hbL,t1,t2,t3,by simp only;omega⟩
  .rintro⟨b,hr,t1,t2,t3,rfl⟩;refine⟨_,(memrow hi).2 ⟨b,qI ⟨t1,t2,t3⟩⟩,by simp only;omega,by simp only[Int.toNat_natCast];exact(h.idx hr).symm,?_⟩;have hb1:=ab.turn_bd hok a b;have hb2:=ab.w_bd hok b;simp only;omega
 have out:∀(i a o y:Nat),L[i]? = Y a->((o,y)∈iw (cL S i)↔∃b,(N.outs p 1 c)[o]? = Y b/\N.turn a b<aT/\y=(N.turn a b).toNat):=λi a o y hi=>by
  rw[wP];constructor
  .rintro⟨s,hs,h0,rfl,rfl⟩;obtain⟨b,hb⟩:=(memrow hi).1 hs;obtain⟨t1,⟨t2,rfl⟩ | ⟨t2,t3,rfl⟩⟩:=iC hb
   .exact⟨b,by simpa using aW t2,t1,rfl⟩
   .simp only at h0;omega
  .rintro⟨b,hr,t1,rfl⟩;have hbm:=List.mem_of_getElem? hr;refine⟨_,(memrow hi).2 ⟨b,tc t1 hbm⟩,by simp only;omega,?_,rfl⟩;simp only[Int.toNat_natCast];exact iu (bH _ _) hr (aW hbm)
 have at_q:∀{q:Nat},q<L.length->∃a,L[q]? = Y a:=λhq=>⟨_,List.getElem?_eq_getElem hq⟩;refine⟨⟨λi j a hi hj=>h.one hi hj,λi a hi=>?_,h.mem,inn,λi a b hi h1 h2 h3=>h.closed i a b (List.getElem?_eq_some_iff.1 hi).1 hi ⟨h1,h2,h3⟩,out⟩,⟨λq r x hq hm=>?_,λq o y hq hm=>?_,λq r x x' hq h1 h2=>?_,λq s hq hs=>?_⟩⟩
 .obtain⟨M,hM⟩:=h.pre;rw[hM,List.getElem?_append_left (List.getElem?_eq_some_iff.1 hi).1];exact hi
 .obtain⟨a,ha⟩:=at_q hq;obtain⟨b,hr,t1,t2,t3,rfl⟩:=(inn q a r x ha).1 hm;have hb1:=ab.turn_bd hok a b;have hb2:=ab.w_bd hok b;unfold aT at *;exact⟨(List.getElem?_eq_some_iff.1 hr).1,U⟩
 .obtain⟨a,ha⟩:=at_q hq;obtain⟨b,hr,t1,rfl⟩:=(out q a o y ha).1 hm;have hb1:=ab.turn_bd hok a b;unfold aT at *;exact⟨(List.getElem?_eq_some_iff.1 hr).1,U⟩
 .obtain⟨a,ha⟩:=at_q hq;obtain⟨b,hr,-,-,-,rfl⟩:=(inn q a r x ha).1 h1;obtain⟨b',hr',-,-,-,rfl⟩:=(inn q a r x' ha).1 h2;rw[hr]at hr';injection hr' with hr';rw[hr']
 .obtain⟨a,ha⟩:=at_q hq;obtain⟨b,hb⟩:=(memrow ha).1 hs;have hb1:=ab.turn_bd hok a b;have hb2:=ab.w_bd hok b;obtain⟨t1,⟨t2,rfl⟩ | ⟨t2,t3,rfl⟩⟩:=iC hb
  .have:=List.idxOf_lt_length_of_mem t2;unfold aT at *;simp only;omega
  .have hbL:=h.closed q a b hq ha ⟨t1,t2,t3⟩;have:=List.idxOf_lt_length_of_mem hbL;unfold aT at *;simp only;omega
end
end
section
open Go Go.RowKit
structure gk (N:ab) (p:List (List Int)) (k c:Nat) (ks:List Nat):Prop where
 asc:ks.Pairwise (· < ·)
 mem:∀d,d∈ks↔∃v,v<N.nv/\aG p k v=c/\aG p (k - 1) v=d
def ab.LK (N:ab) (p:List (List Int)) (k:Nat) (ks:List Nat):Nat->List Nat
 | 0=>[]
 | i+1=>N.LK p k ks i ++ N.ins p (k - 1) ((ks[i]?).getD 0)
def ab.firstK (N:ab) (p:List (List Int)) (k d j:Nat):Int:=if N.outs p (k - 1) d = [] then -1 else((N.start p (k - 1) d+j*(N.outs p (k - 1) d).length:Nat):Int)
def ab.spK (N:ab) (p:List (List Int)) (k:Nat) (ks:List Nat):Nat->List (Int×Int)
 | 0=>[]
 | i+1=>N.spK p k ks i ++ (List.range (N.ins p (k - 1) ((ks[i]?).getD 0)).length).map λj=>(N.firstK p k ((ks[i]?).getD 0) j,(i:Int))
def ab.kStep (N:ab) (p:List (List Int)) (k c:Nat) (L:List Nat) (m:Nat):cm:=
 if m∈N.outs p k c then(0,(((N.outs p k c).idxOf m:Nat):Int),0) else if m∈L then(((L.idxOf m:Nat):Int),-1,N.w m) else(0,-1,aT)
def gO (costs:List Int) (first:Nat) (ls:List cm) (j:Nat):Option cm:=
 match ls[j]? with
 | some s=>if at_ costs (first+j)<aT/\s.2.2<aT then Y (s.1,s.2.1,s.2.2+at_ costs (first+j)) else ω
 | none=>ω
def qJ (costs:List Int) (first:Nat) (ls:List cm):List cm:=(List.range ls.length).filterMap (gO costs first ls)
def ab.kList (N:ab) (p:List (List Int)) (k c:Nat) (ks:List Nat) (i:Nat):List cm:=(N.outs p (k - 1) ((ks[i]?).getD 0)).map (N.kStep p k c (N.LK p k ks ks.length))
def ab.kSteps (N:ab) (p:List (List Int)) (k c:Nat) (ks:List Nat) (costs:List Int) (q:Nat):List cm:=
 match (N.spK p k ks ks.length)[q]? with
 | some x=>qJ costs x.1.toNat (N.kList p k c ks x.2.toNat)
 | none=>[]
section
variable {N:ab}{p:List (List Int)}{k c:Nat}{ks:List Nat}{costs:List Int}
theorem jL:∀n,(N.spK p k ks n).length=(N.LK p k ks n).length
 | 0=>rfl
 | n+1=>by simp[ab.spK,ab.LK,jL n]
theorem zY {q a:Nat}:∀n,n<=ks.length->(N.LK p k ks n)[q]? = Y a->∃i j d,i<n/\ks[i]? = Y d/\(N.ins p (k - 1) d)[j]? = Y a/\(N.spK p k ks n)[q]? = Y (N.firstK p k d j,(i:Int))
 | 0,_,h=>by simp[ab.LK]at h
 | n+1,hn,h=>by
  have hd:ks[n]? = Y ((ks[n]?).getD 0):=by rw[List.getElem?_eq_getElem U];rfl
  unfold ab.LK at h;rw[List.getElem?_append]at h
  split at h
  .rename_i hlt;obtain⟨i,j,d,h1,h2,h3,h4⟩:=zY n U h;refine⟨i,j,d,U,h2,h3,?_⟩;unfold ab.spK;rw[List.getElem?_append_left (by rw[jL];exact hlt)];exact h4
  .rename_i hge;refine⟨n,q - (N.LK p k ks n).length,_,U,hd,h,?_⟩;have hj:=(List.getElem?_eq_some_iff.1 h).1;unfold ab.spK;rw[List.getElem?_append_right (by rw[jL];omega),jL];simp[hj]
theorem uV {a:Nat}:∀n,n<=ks.length->(a∈N.LK p k ks n↔∃i d,i<n/\ks[i]? = Y d/\a∈N.ins p (k - 1) d)
 | 0,_=>by simp[ab.LK]
 | n+1,hn=>by
  have hd:ks[n]? = Y ((ks[n]?).getD 0):=by rw[List.getElem?_eq_getElem U];rfl
  unfold ab.LK;rw[List.mem_append,uV n U];constructor
  .rintro(⟨i,d,h1,h2,h3⟩ | h)
   .exact⟨i,d,U,h2,h3⟩
   .exact⟨n,_,U,hd,h⟩
  .rintro⟨i,d,h1,h2,h3⟩;by_cases e:i=n
   .subst e;rw[h2];exact .inr h3
   .exact .inl ⟨i,d,U,h2,h3⟩
theorem md (hks:ks.Pairwise (· < ·)):∀n,n<=ks.length->(N.LK p k ks n).Nodup
 | 0,_=>by simp[ab.LK]
 | n+1,hn=>by
  have hd:ks[n]? = Y ((ks[n]?).getD 0):=by rw[List.getElem?_eq_getElem U];rfl
  unfold ab.LK;refine List.nodup_append.2 ⟨md hks n U,List.Pairwise.imp (λh=>Nat.ne_of_lt h) (bH _ _),λa ha b hb e=>?_⟩;subst e;obtain⟨i,d,h1,h2,h3⟩:=(uV n U).1 ha;have e1:=(ab.mem_ins.1 h3).2.1;have e2:=(ab.mem_ins.1 hb).2.1;have:d<(ks[n]?).getD 0:=jH hks h2 hd h1;omega
theorem DU (hks:ks.Pairwise (· < ·)){n j a:Nat}(hn:n<ks.length) (ha:(N.ins p (k - 1) ((ks[n]?).getD 0))[j]? = Y a):a ∉ N.LK p k ks n ++ (N.ins p (k - 1) ((ks[n]?).getD 0)).take j:=by
 have h1:=md (N:=N) (p:=p) (k:=k) hks (n+1) hn;unfold ab.LK at h1;intro hm;have ham:=List.mem_of_getElem? ha;rcases List.mem_append.1 hm with hm | hm
 .exact(List.nodup_append.1 h1).2.2 a hm a ham rfl
 .obtain⟨i,hi,he⟩:=List.mem_take_iff_getElem.1 hm;have h2:(N.ins p (k - 1) ((ks[n]?).getD 0))[i]? = Y a:=by rw[List.getElem?_eq_getElem U,he]
  have:=dY (List.nodup_append.1 h1).2.1 h2 ha;omega
theorem DV (hks:ks.Pairwise (· < ·)){n:Nat}(hn:n<=ks.length):(N.LK p k ks n).length<=N.na:=jJ (md hks n hn) λa ha=>by
 obtain⟨i,d,h1,h2,h3⟩:=(uV n hn).1 ha;exact(ab.mem_ins.1 h3).1
theorem BP {first:Nat}{ls:List cm}{s:cm}:s∈qJ costs first ls↔∃j t,ls[j]? = Y t/\at_ costs (first+j)<aT/\t.2.2<aT/\s=(t.1,t.2.1,t.2.2+at_ costs (first+j)):=by
 unfold qJ;rw[List.mem_filterMap];constructor
 .rintro⟨j,hj,h⟩;unfold gO at h;cases ht:ls[j]? with
  | none=>rw[ht]at h;cases h
  | some t=>
   rw[ht]at h;simp only at h;by_cases hc:at_ costs (first+j)<aT/\t.2.2<aT
   .rw[if_pos hc]at h;injection h with h;exact⟨j,t,ht,hc.1,hc.2,h.symm⟩
   .rw[if_neg hc]at h;cases h
 .rintro⟨j,t,ht,h1,h2,rfl⟩;refine⟨j,by simpa using(List.getElem?_eq_some_iff.1 ht).1,?_⟩;unfold gO;rw[ht];simp only;rw[if_pos ⟨h1,h2⟩]
theorem gk.in_kid (hK:gk N p k c ks) (hok:N.Ok) (hp:aP N.nv p) (hk:2<=k) (hkl:k<=p.length){a:Nat}:a∈N.LK p k ks ks.length↔N.kidIn p k c a:=by
 rw[uV ks.length (Nat.le_refl _)];constructor
 .rintro⟨i,d,h1,h2,h3⟩;obtain⟨g1,g2,g3⟩:=ab.mem_ins.1 h3;obtain⟨v,v1,v2,v3⟩:=(hK.mem d).1 (List.mem_of_getElem? h2);have ht:=(ab.to_lt hok g1).1;have:aG p k (N.to a)=aG p k v:=gI hp (l:=k - 1) U U hkl ht v1 (g2.trans v3.symm);exact⟨g1,this.trans v2,rfl,by rw[g2];exact g3⟩
 .rintro⟨g1,g2,g3,g4⟩;have ht:=(ab.to_lt hok g1).1;obtain⟨i,hi⟩:=List.getElem?_of_mem ((hK.mem (aG p (k - 1) (N.to a))).2 ⟨N.to a,ht,g2,rfl⟩);exact⟨i,_,(List.getElem?_eq_some_iff.1 hi).1,hi,ab.mem_ins.2 ⟨g1,g3,g4⟩⟩
theorem gk.lt (hK:gk N p k c ks) (hp:aP N.nv p) (hk:2<=k) (hkl:k<=p.length){d:Nat}(hd:d∈ks):d<au p (k - 1):=by
 obtain⟨v,v1,v2,v3⟩:=(hK.mem d).1 hd;rw[<-v3];exact fu hp U U v1
theorem qK (hok:N.Ok) (hp:aP N.nv p) (hk:2<=k) (hkl:k<=p.length){a:Nat}(ha:a∈N.ins p k c):N.kidIn p k c a:=by
 obtain⟨g1,g2,g3⟩:=ab.mem_ins.1 ha;refine⟨g1,g2,rfl,λe=>g3 ?_⟩;rw[<-g2];exact gI hp (l:=k - 1) U U hkl (ab.fr_lt hok g1).1 (ab.to_lt hok g1).1 e
theorem gk.fld (hK:gk N p k c ks) (hok:N.Ok) (hp:aP N.nv p) (hk:2<=k) (hkl:k<=p.length) (hc:∀d,d∈ks->bz N p costs (k - 1) d) :
  iA N p k c (N.ent p costs) (N.LK p k ks ks.length) ((N.ins p k c).map λa=>(N.LK p k ks ks.length).idxOf a) (N.kSteps p k c ks costs)/\j9 (N.LK p k ks ks.length).length (N.outs p k c).length (4294967296*(N.na+2)) (N.kSteps p k c ks costs)/\pA N p k c (N.ent p costs):=by
 obtain⟨L,hL⟩:∃L,N.LK p k ks ks.length=L:=⟨_,rfl⟩;have hnd:L.Nodup:=by rw[<-hL];exact md hK.asc _ (Nat.le_refl _)
 have hmem:∀{a},a∈L↔N.kidIn p k c a:=fun {a}=>by rw[<-hL];exact hK.in_kid hok hp hk hkl
 have kidmem:∀{a},N.kidIn p k c a->aG p (k - 1) (N.to a)∈ks:=fun {a} ha=>(hK.mem _).2 ⟨N.to a,(ab.to_lt hok ha.1).1,ha.2.1,rfl⟩;have hbel:pA N p k c (N.ent p costs):=λa b ha hb=>by
  have ham:a∈N.ins p (k - 1) (aG p (k - 1) (N.to a)):=ab.mem_ins.2 ⟨ha.1,ha.2.2⟩;exact hc _ (kidmem ha) _ _ a b (aW ham) (aW hb)
 have row:∀{q a:Nat},L[q]? = Y a->∃d,d=aG p (k - 1) (N.to a)/\a∈N.ins p (k - 1) d/\N.kSteps p k c ks costs q=qJ costs (N.firstK p k d ((N.ins p (k - 1) d).idxOf a)).toNat ((N.outs p (k - 1) d).map (N.kStep p k c L)):=fun {q a} hq=>by
  rw[<-hL]at hq;obtain⟨i,j,d,h1,h2,h3,h4⟩:=zY ks.length (Nat.le_refl _) hq;have hm:=List.mem_of_getElem? h3;have hj:(N.ins p (k - 1) d).idxOf a=j:=iu (bH _ _) (aW hm) h3;refine⟨d,(ab.mem_ins.1 hm).2.1.symm,hm,?_⟩;unfold ab.kSteps;rw[h4];simp only[Int.toNat_natCast];rw[hj];unfold ab.kList;rw[h2,hL];rfl
 have ent_eq:∀{a m j:Nat},a∈N.ins p (k - 1) (aG p (k - 1) (N.to a))->(N.outs p (k - 1) (aG p (k - 1) (N.to a)))[j]? = Y m->at_ costs ((N.firstK p k (aG p (k - 1) (N.to a)) ((N.ins p (k - 1) (aG p (k - 1) (N.to a))).idxOf a)).toNat+j)=N.ent p costs (k - 1) a m:=fun {a m j} ha hm=>by
  have hne:N.outs p (k - 1) (aG p (k - 1) (N.to a))≠[]:=λe=>by rw[e]at hm;simp at hm
  have hj:(N.outs p (k - 1) (aG p (k - 1) (N.to a))).idxOf m=j:=iu (bH _ _) (aW (List.mem_of_getElem? hm)) hm;unfold ab.firstK ab.ent;rw[if_neg hne,Int.toNat_natCast,hj,Nat.add_assoc]
 have memrow:∀{q a:Nat}{s:cm},L[q]? = Y a->(s∈N.kSteps p k c ks costs q↔∃m,m∈N.outs p (k - 1) (aG p (k - 1) (N.to a))/\N.ent p costs (k - 1) a m<aT/\(N.kStep p k c L m).2.2<aT/\s=((N.kStep p k c L m).1,(N.kStep p k c L m).2.1,(N.kStep p k c L m).2.2+N.ent p costs (k - 1) a m)):=fun {q a s} hq=>by
  obtain⟨d,rfl,ham,hr⟩:=row hq;rw[hr,BP];constructor
  .rintro⟨j,t,ht,h1,h2,rfl⟩;rw[List.getElem?_map]at ht;cases hm:(N.outs p (k - 1) (aG p (k - 1) (N.to a)))[j]? with
   | none=>rw[hm]at ht;cases ht
   | some m=>
    rw[hm]at ht;injection ht with ht;subst ht;rw[ent_eq ham hm]at h1⊢;exact⟨m,List.mem_of_getElem? hm,h1,h2,rfl⟩
  .rintro⟨m,hm,h1,h2,rfl⟩;obtain⟨j,hj⟩:=List.getElem?_of_mem hm;refine⟨j,_,by rw[List.getElem?_map,hj];rfl,?_,h2,?_⟩
   .rw[ent_eq ham hj];exact h1
   .rw[ent_eq ham hj]
 have stepO:∀{m},m∈N.outs p k c->N.kStep p k c L m=(0,(((N.outs p k c).idxOf m:Nat):Int),0):=λhm=>by unfold ab.kStep;rw[if_pos hm]
 have stepI:∀{m},m ∉ N.outs p k c->m∈L->N.kStep p k c L m=(((L.idxOf m:Nat):Int),-1,N.w m):=λh1 h2=>by unfold ab.kStep;rw[if_neg h1,if_pos h2]
 have stepN:∀{m},m ∉ N.outs p k c->m ∉ L->N.kStep p k c L m=(0,-1,aT):=λh1 h2=>by unfold ab.kStep;rw[if_neg h1,if_neg h2]
 have entb:∀{a m},N.kidIn p k c a->m∈N.outs p (k - 1) (aG p (k - 1) (N.to a))->0<=N.ent p costs (k - 1) a m/\(N.ent p costs (k - 1) a m<aT->N.ent p costs (k - 1) a m<=4294967296*((N.na:Int)+1)):=λha hm=>⟨(hbel _ _ ha hm).bd.1,λh=>(hbel _ _ ha hm).top hok h⟩;have inn:∀(i a r x:Nat),L[i]? = Y a->((r,x)∈fv (N.kSteps p k c ks costs i)↔∃m,L[r]? = Y m/\m∈N.outs p (k - 1) (aG p (k - 1) (N.to a))/\m ∉ N.outs p k c/\N.ent p costs (k - 1) a m<aT/\N.w m<aT/\x=(N.ent p costs (k - 1) a m).toNat+(N.w m).toNat):=λi a r x hi=>by
  have ha:=hmem.1 (List.mem_of_getElem? hi);rw[wO];constructor
  .rintro⟨s,hs,h0,rfl,rfl⟩;obtain⟨m,m1,m2,m3,rfl⟩:=(memrow hi).1 hs;by_cases g1:m∈N.outs p k c
   .rw[stepO g1]at h0;simp only at h0;omega
   .by_cases g2:m∈L
    .rw[stepI g1 g2]at m3⊢;simp only at m3⊢;have hb2:=ab.w_bd hok m;have hb1:=(entb ha m1).1;exact⟨m,by simpa using aW g2,m1,g1,m2,m3,U⟩
    .rw[stepN g1 g2]at m3;exact absurd m3 (Int.lt_irrefl _)
  .rintro⟨m,hr,m1,m2,m3,m4,rfl⟩;have hmL:=List.mem_of_getElem? hr;have hs:=stepI m2 hmL;have hb2:=ab.w_bd hok m;have hb1:=(entb ha m1).1;refine⟨_,(memrow hi).2 ⟨m,m1,m3,by rw[hs];exact m4,rfl⟩,by rw[hs];simp only;omega,by rw[hs];simp only[Int.toNat_natCast];exact(dY hnd (aW hmL) hr).symm,by rw[hs];simp only;omega⟩
 have out:∀(i a o y:Nat),L[i]? = Y a->((o,y)∈iw (N.kSteps p k c ks costs i)↔∃b,(N.outs p k c)[o]? = Y b/\b∈N.outs p (k - 1) (aG p (k - 1) (N.to a))/\N.ent p costs (k - 1) a b<aT/\y=(N.ent p costs (k - 1) a b).toNat):=λi a o y hi=>by
  have ha:=hmem.1 (List.mem_of_getElem? hi);rw[wP];constructor
  .rintro⟨s,hs,h0,rfl,rfl⟩;obtain⟨m,m1,m2,m3,rfl⟩:=(memrow hi).1 hs;by_cases g1:m∈N.outs p k c
   .rw[stepO g1];simp only[Int.toNat_natCast,Int.zero_add];exact⟨m,aW g1,m1,m2,rfl⟩
   .by_cases g2:m∈L
    .rw[stepI g1 g2]at h0;simp only at h0;omega
    .rw[stepN g1 g2]at m3;exact absurd m3 (Int.lt_irrefl _)
  .rintro⟨b,hr,m1,m2,rfl⟩;have hbm:=List.mem_of_getElem? hr;have hs:=stepO hbm;refine⟨_,(memrow hi).2 ⟨b,m1,m2,by rw[hs];exact(by decide:(0:Int)<aT),rfl⟩,by rw[hs];simp only;omega,by rw[hs];simp only[Int.toNat_natCast];exact iu (bH _ _) hr (aW hbm),by rw[hs];simp only[Int.zero_add]⟩
 have at_q:∀{q:Nat},q<L.length->∃a,L[q]? = Y a:=λhq=>⟨_,List.getElem?_eq_getElem hq⟩;rw[hL];refine⟨⟨λa=>hmem,λi a hi=>?_,inn,out⟩,⟨λq r x hq hm=>?_,λq o y hq hm=>?_,λq r x x' hq h1 h2=>?_,λq s hq hs=>?_⟩,hbel⟩
 .have haL:=hmem.2 (qK hok hp hk hkl (List.mem_of_getElem? hi));exact⟨L.idxOf a,by rw[List.getElem?_map,hi];rfl,aW haL⟩
 .obtain⟨a,ha⟩:=at_q hq;have hka:=hmem.1 (List.mem_of_getElem? ha);obtain⟨m,hr,m1,m2,m3,m4,rfl⟩:=(inn q a r x ha).1 hm;have hb2:=ab.w_bd hok m;have hb1:=entb hka m1;have hb3:=hb1.2 m3;unfold aT at *;exact⟨(List.getElem?_eq_some_iff.1 hr).1,U⟩
 .obtain⟨a,ha⟩:=at_q hq;have hka:=hmem.1 (List.mem_of_getElem? ha);obtain⟨b,hr,m1,m2,rfl⟩:=(out q a o y ha).1 hm;have hb1:=entb hka m1;have hb3:=hb1.2 m2;exact⟨(List.getElem?_eq_some_iff.1 hr).1,U⟩
 .obtain⟨a,ha⟩:=at_q hq;obtain⟨b,hr,-,-,-,-,rfl⟩:=(inn q a r x ha).1 h1;obtain⟨b',hr',-,-,-,-,rfl⟩:=(inn q a r x' ha).1 h2;rw[hr]at hr';injection hr' with hr';rw[hr']
 .obtain⟨a,ha⟩:=at_q hq;have hka:=hmem.1 (List.mem_of_getElem? ha);obtain⟨m,m1,m2,m3,rfl⟩:=(memrow ha).1 hs;have hb1:=entb hka m1;have hb3:=hb1.2 m2;have hb2:=ab.w_bd hok m;by_cases g1:m∈N.outs p k c
  .rw[stepO g1];have:=List.idxOf_lt_length_of_mem g1;simp only;omega
  .by_cases g2:m∈L
   .rw[stepI g1 g2]at m3⊢;have:=List.idxOf_lt_length_of_mem g2;unfold aT at *;simp only at m3⊢;omega
   .rw[stepN g1 g2]at m3;exact absurd m3 (Int.lt_irrefl _)
end
end
section
open Go Go.RowKit
def nQ (up:List Int) (m:Nat):Prop:=∀(c:Nat) (y z:Int),c+1<m->up[c]? = Y y->up[c+1]? = Y z->y<=z
theorem nQ.to {up:List Int}{m:Nat}(h:nQ up m) (hd:∀c,c<m->∃y,up[c]? = Y y):∀(k c:Nat) (y z:Int),c+k<m->up[c]? = Y y->up[c+k]? = Y z->y<=z
 | 0,c,y,z,hm,hy,hz=>by
  rw[Nat.add_zero]at hz;rw[hy]at hz;injection hz with hz;omega
 | k+1,c,y,z,hm,hy,hz=>by
  obtain⟨x,hx⟩:=hd (c+k) U;have h1:=nQ.to h hd k c y x U hy hx;have h2:=h (c+k) x z U hx hz;omega
theorem DW {low row up:List Int}{n:Nat}(hin:lX n low) (hfull:eX low) (hl:low.length=row.length)
  (hup:∀(v:Nat) (x y:Int),low[v]? = Y x->row[v]? = Y y->up[x.toNat]? = Y y):fV low row↔nQ up (aO low).toNat:=by
 have hm:=cW low;have hat:∀c:Nat,c<(aO low).toNat->∃(v:Nat) (y:Int),low[v]? = Y (c:Int)/\row[v]? = Y y/\up[c]? = Y y:=λc hc=>by
  have h1:=hfull (c:Int) U U;obtain⟨v,hv⟩:=List.mem_iff_getElem?.1 h1;have hlt:=(List.getElem?_eq_some_iff.1 hv).1;have hr:row[v]? = Y (row[v]' U):=List.getElem?_eq_getElem _;have h2:=hup v _ _ hv hr;rw[Int.toNat_natCast]at h2;exact⟨v,_,hv,hr,h2⟩
 constructor
 .intro h c y z hc hy hz;obtain⟨v,y',h1,h2,h3⟩:=hat c U;obtain⟨v',z',k1,k2,k3⟩:=hat (c+1) U;rw[h3]at hy;rw[k3]at hz;injection hy with hy;injection hz with hz;subst hy hz;exact h v v' _ _ _ _ h1 k1 h2 k2 U
 .intro h a b x y x' y' h1 h2 h3 h4 hxy;have hx0:=(hin x (List.mem_of_getElem? h1)).1;have hx1:=nL (List.mem_of_getElem? h1);have hy1:=nL (List.mem_of_getElem? h2);have u1:=hup a x x' h1 h3;have u2:=hup b y y' h2 h4;have e:y.toNat=x.toNat+(y.toNat - x.toNat):=U;rw[e]at u2;exact h.to (λc hc=>by obtain⟨v,z,-,-,h⟩:=hat c hc;exact⟨z,h⟩) _ _ _ _ U u1 u2
theorem wQ {row:List Int}{n:Nat}(hin:lX n row):eX row↔∀c:Nat,c<(aO row).toNat->(row.count (c:Int):Int)≠0:=by
 constructor
 .intro h c hc h0;have h1:=h (c:Int) U U;have h2:=List.count_pos_iff.2 h1;omega
 .intro h c h0 h1;have h2:=h c.toNat U;rw[show((c.toNat:Nat):Int)=c by omega]at h2;exact List.count_pos_iff.1 U
end
section
open Go Go.RowKit
structure bV (N M:ab):Prop where
 vs:M.vs=N.vs
 xa:M.xa.map (λx=>(x.1,x.2.1))=N.xa.map λx=>(x.1,x.2.1)
 ts:M.ts.map (λt=>(t.1,t.2.1))=N.ts.map λt=>(t.1,t.2.1)
theorem bV.refl (N:ab):bV N N:=⟨rfl,rfl,rfl⟩
section
variable {N M L:ab}{p:List (List Int)}
theorem bV.trans (S:bV N M) (T:bV M L):bV N L:=⟨T.vs.trans S.vs,T.xa.trans S.xa,T.ts.trans S.ts⟩
theorem bV.na (S:bV N M):M.na=N.na:=by have:=congrArg List.length S.xa;simpa[ab.na]using this
theorem bV.nv (S:bV N M):M.nv=N.nv:=by unfold ab.nv;rw[S.vs]
theorem bV.nt (S:bV N M):M.ts.length=N.ts.length:=by have:=congrArg List.length S.ts;simpa using this
theorem bV.two (S:bV N M) (a:Nat):(M.xa[a]?).map (λx=>(x.1,x.2.1))=(N.xa[a]?).map λx=>(x.1,x.2.1):=by
 rw[<-List.getElem?_map,<-List.getElem?_map,S.xa]
theorem bV.arc (S:bV N M) (a:Nat):(M.arc a).1=(N.arc a).1/\(M.arc a).2.1=(N.arc a).2.1:=by
 have h:=S.two a;unfold ab.arc;cases h1:M.xa[a]? <;>cases h2:N.xa[a]? <;>rw[h1,h2]at h <;>simp at h <;>simp[h]
theorem bV.fr (S:bV N M) (a:Nat):M.fr a=N.fr a:=by unfold ab.fr;rw[(S.arc a).1]
theorem bV.to (S:bV N M) (a:Nat):M.to a=N.to a:=by unfold ab.to;rw[(S.arc a).2]
theorem bV.hit (S:bV N M):hit M.xa=hit N.xa:=by
 funext q v j
 have h:=S.two j;unfold Go.Proofs.YtaagdjkinbemcaaGreatDoor.hit;cases h1:M.xa[j]? <;>cases h2:N.xa[j]? <;>rw[h1,h2]at h <;>simp at h <;>simp[h]
theorem bV.ends (S:bV N M):ends M.xa=ends N.xa:=by
 funext k q
 unfold Go.Proofs.YtaagdjkinbemcaaGreatDoor.ends;rw[S.hit]
theorem bV.inPl (S:bV N M) (a:Nat):M.inPl a=N.inPl a:=by unfold ab.inPl;rw[S.ends,S.to]
theorem bV.outPl (S:bV N M) (a:Nat):M.outPl a=N.outPl a:=by unfold ab.outPl;rw[S.ends,S.fr]
theorem bV.ins (S:bV N M) (k c:Nat):M.ins p k c=N.ins p k c:=by
 unfold ab.ins;rw[S.na]
 congr 1
 funext a
 unfold ab.insB;rw[S.to,S.fr]
theorem bV.outs (S:bV N M) (k c:Nat):M.outs p k c=N.outs p k c:=by
 unfold ab.outs;rw[S.na]
 congr 1
 funext a
 unfold ab.outsB;rw[S.to,S.fr]
theorem bV.sz (S:bV N M):M.sz p=N.sz p:=by
 funext k c
 unfold ab.sz;rw[S.ins,S.outs]
theorem bV.lsz (S:bV N M):M.lsz p=N.lsz p:=by
 funext j
 unfold ab.lsz;rw[S.sz]
theorem bV.start (S:bV N M):M.start p=N.start p:=by
 funext k c
 unfold ab.start;rw[S.sz,S.lsz]
theorem bV.size (S:bV N M):M.size p=N.size p:=by unfold ab.size;rw[S.lsz]
theorem bV.win (S:bV N M) (k c:Nat):M.win p k c=N.win p k c:=by
 funext a
 unfold ab.win;rw[S.to,S.fr]
structure eM (N M:ab) (p:List (List Int)) (k c:Nat):Prop where
 w:∀a,a<N.na->N.win p k c a->M.w a=N.w a
 tab:∀v,v<N.nv->aG p k v=c->M.tab v=N.tab v
theorem aA.congr {e e':Nat->Nat->Option Nat}{P:Nat->Prop}{a d c:Nat}(h:∀b d,(b=a\/P b)->P d->e b d=e' b d) (w:aA e P a d c):aA e' P a d c:=by
 induction w with
 | here=>exact .here
 | @on b d c x hw he hp ih=>exact .on ih ((h b d hw.mem hp).symm.trans he) hp
theorem eM.turn (S:bV N M) (hok:N.Ok){k c:Nat}(I:eM N M p k c){d b:Nat}(hd:d<N.na->aG p k (N.to d)=c):M.turn d b=N.turn d b:=by
 unfold ab.turn;rw[S.na,S.to,S.fr,S.inPl,S.outPl];by_cases h:d<N.na/\b<N.na/\N.to d=N.fr b
 .rw[if_pos h,if_pos h,I.tab _ (ab.to_lt hok h.1).1 (hd h.1)]
 .rw[if_neg h,if_neg h]
theorem eM.e (S:bV N M) (hok:N.Ok){k c:Nat}(I:eM N M p k c){d b:Nat}(hd:d<N.na->aG p k (N.to d)=c) (hb:b<N.na->N.win p k c b):M.e d b=N.e d b:=by
 have ht:=eM.turn S hok I (b:=b) hd;have hw:M.w b=N.w b:=by
  by_cases h:b<N.na
  .exact I.w b h (hb h)
  .unfold ab.w;rw[S.na,if_neg h,if_neg h]
 unfold ab.e eT ab.tr ab.ok ab.wn;rw[ht,hw]
theorem qG.same (S:bV N M) (hok:N.Ok){k c:Nat}(I:eM N M p k c){a b:Nat}{v:Int}(ha:aG p k (N.to a)=c) (h:qG N (N.win p k c) a b v):qG M (M.win p k c) a b v:=by
 have hs:∀d,(d=a\/N.win p k c d)->d<N.na->aG p k (N.to d)=c:=λd hd _=>by
  rcases hd with rfl | hd
  .exact ha
  .exact hd.2
 have he:∀d b,(d=a\/N.win p k c d)->N.win p k c b->M.e d b=N.e d b:=λd b hd hb=>eM.e S hok I (hs d hd) λ_=>hb;have htr:∀d,(d=a\/N.win p k c d)->M.tr d b=N.tr d b:=λd hd=>by unfold ab.tr;rw[eM.turn S hok I (hs d hd)]
 rw[S.win];refine⟨h.bd,λd x y hw hy=>?_,λhlt=>?_⟩
 .have hw':=hw.congr he;exact h.least d x y hw' ((htr d hw'.mem).symm.trans hy)
 .obtain⟨d,x,y,h1,h2,h3⟩:=h.way hlt;exact⟨d,x,y,h1.congr λb d hb hd=>(he b d hb hd).symm,(htr d h1.mem).trans h2,h3⟩
theorem bz.same (S:bV N M) (hok:N.Ok){k c:Nat}(I:eM N M p k c){costs:List Int}(h:bz N p costs k c):bz M p costs k c:=by
 intro i j a b hi hj;rw[S.ins]at hi;rw[S.outs]at hj;rw[S.outs,S.start];have:=ab.mem_ins.1 (List.mem_of_getElem? hi);exact(h i j a b hi hj).same S hok I this.2.1
end
abbrev eQ:=Int×Int×Int×Int×Int
def ab.setW (N:ab) (a:Nat) (w:Int):ab:={ N with xa:=N.xa.set a ((N.arc a).1,(N.arc a).2.1,w) }
def ab.tb (N:ab) (t:Nat):wH:=(N.ts[t]?).getD (0,0,[])
def BQ (t:wH) (i o:Nat) (c:Int):wH:=(t.1,t.2.1,t.2.2.set (i*t.2.1.toNat+o) c)
def ab.bend (N:ab) (t i o:Nat) (c:Int):ab:={ N with ts:=N.ts.set t (BQ (N.tb t) i o c) }
def ab.do1 (N:ab) (x:eQ):ab:=if x.1=1 then N.setW x.2.1.toNat x.2.2.2.2 else N.bend x.2.1.toNat x.2.2.1.toNat x.2.2.2.1.toNat x.2.2.2.2
def ab.doL (N:ab) (l:List eQ):ab:=l.foldl ab.do1 N
def ab.isTurn (N:ab) (x:eQ):Prop:=(0<=x.2.1/\x.2.1<N.ts.length)/\(0<=x.2.2.1/\x.2.2.1<(N.tb x.2.1.toNat).1)/\(0<=x.2.2.2.1/\x.2.2.2.1<(N.tb x.2.1.toNat).2.1)
instance (N:ab) (x:eQ):Decidable (N.isTurn x):=by unfold ab.isTurn;infer_instance
def ab.wrong (N:ab) (x:eQ):Int:=
 if x.1≠1/\x.1≠2 then 1
 else if x.1=1/\(x.2.2.1≠0\/x.2.2.2.1≠0) then 1
 else if x.1=1/\(x.2.1<0\/(N.na:Int)<=x.2.1) then 5
 else if x.1=2/\¬N.isTurn x then 5
 else if aU x.2.2.2.2=true then 0 else 8
structure fW (N:ab) (x:eQ):Prop where
 w:aU x.2.2.2.2=true
 is:(x.1=1/\0<=x.2.1/\x.2.1<N.na/\x.2.2.1=0/\x.2.2.2.1=0)\/(x.1=2/\N.isTurn x)
theorem ab.wrong_ok {N:ab}{x:eQ}:N.wrong x=0↔fW N x:=by
 unfold ab.wrong;constructor
 .intro h;by_cases h1:x.1≠1/\x.1≠2
  .rw[if_pos h1]at h;cases h
  rw[if_neg h1]at h;by_cases h2:x.1=1/\(x.2.2.1≠0\/x.2.2.2.1≠0)
  .rw[if_pos h2]at h;cases h
  rw[if_neg h2]at h;by_cases h3:x.1=1/\(x.2.1<0\/(N.na:Int)<=x.2.1)
  .rw[if_pos h3]at h;cases h
  rw[if_neg h3]at h;by_cases h4:x.1=2/\¬N.isTurn x
  .rw[if_pos h4]at h;cases h
  rw[if_neg h4]at h;by_cases h5:aU x.2.2.2.2=true
  .refine⟨h5,?_⟩;by_cases e1:x.1=1
   .exact .inl ⟨e1,U,U,U,U⟩
   .have e2:x.1=2:=U;exact .inr ⟨e2,Classical.byContradiction λhn=>h4 ⟨e2,hn⟩⟩
  .rw[if_neg h5]at h;cases h
 .rintro⟨hw,⟨e1,e2,e3,e4,e5⟩ | ⟨e1,e2⟩⟩
  .rw[if_neg U,if_neg U,if_neg U,if_neg (by rintro⟨h,-⟩;omega),if_pos hw]
  .rw[if_neg U,if_neg U,if_neg U,if_neg (λh=>h.2 e2),if_pos hw]
section
variable {N M:ab}{p:List (List Int)}
theorem ab.setW_shp (a:Nat) (w:Int):bV N (N.setW a w):=by
 refine⟨rfl,?_,rfl⟩;apply List.ext_getElem?;intro j;unfold ab.setW;simp only[List.getElem?_map,List.getElem?_set];by_cases h:a=j
 .subst h;rw[if_pos rfl];by_cases hl:a<N.xa.length
  .rw[if_pos hl];simp[ab.arc,List.getElem?_eq_getElem hl]
  .rw[if_neg hl,List.getElem?_eq_none U]
 .rw[if_neg h]
theorem ab.setW_w {a:Nat}{w:Int}(ha:a<N.na) (b:Nat):(N.setW a w).w b=if b=a then w else N.w b:=by
 have hn:=(ab.setW_shp (N:=N) a w).na;unfold ab.w;rw[hn];by_cases h:b=a
 .subst h;rw[if_pos ha,if_pos rfl];unfold ab.na at ha;simp[ab.setW,ab.arc,List.getElem?_set,ha]
 .rw[if_neg h];have:(N.setW a w).arc b=N.arc b:=by
   have h':¬a=b:=λe=>h e.symm;simp[ab.setW,ab.arc,List.getElem?_set,h']
  rw[this]
theorem ab.bend_shp (t i o:Nat) (c:Int):bV N (N.bend t i o c):=by
 refine⟨rfl,rfl,?_⟩;apply List.ext_getElem?;intro j;unfold ab.bend;simp only[List.getElem?_map,List.getElem?_set];by_cases h:t=j
 .subst h;rw[if_pos rfl];by_cases hl:t<N.ts.length
  .rw[if_pos hl];simp[ab.tb,BQ,List.getElem?_eq_getElem hl]
  .rw[if_neg hl,List.getElem?_eq_none U]
 .rw[if_neg h]
theorem ab.do1_shp (x:eQ):bV N (N.do1 x):=by
 unfold ab.do1
 split
 .exact ab.setW_shp _ _
 .exact ab.bend_shp _ _ _ _
theorem ab.doL_shp:∀(l:List eQ){N:ab},bV N (N.doL l)
 | [],N=>bV.refl N
 | x :: l,N=>(ab.do1_shp x).trans (ab.doL_shp l (N:=N.do1 x))
theorem ab.doL_snoc (l:List eQ) (x:eQ):N.doL (l ++ [x])=(N.doL l).do1 x:=by simp[ab.doL,List.foldl_append]
theorem uW {α:Type}{l:List α}{i:Nat}{x y:α}(h:y∈l.set i x):y=x\/y∈l:=by
 rcases List.mem_or_eq_of_mem_set h with h | h
 .exact .inr h
 .exact .inl h
theorem te {α β:Type}{f:α->β}{q:β->Bool}:∀(l m:List α),l.map f=m.map f->l.countP (λx=>q (f x))=m.countP λx=>q (f x):=λl m h=>by
 have:∀l:List α,l.countP (λx=>q (f x))=(l.map f).countP q:=λl=>by rw[List.countP_map];rfl
 rw[this,this,h]
theorem bV.ok (S:bV N M) (hok:N.Ok) (hw:∀x∈M.xa,aU x.2.2=true) (ht:∀t∈M.ts,dM t.1 t.2.1 t.2.2):M.Ok:=by
 have hl:M.xa.length=N.xa.length:=S.na;have hcT:∀i:Int,M.xa.countP (λa=>dS a == i)=N.xa.countP λa=>dS a == i:=λi=>te (f:=λx:fJ=>(x.1,x.2.1)) (q:=λy=>y.2 == i) _ _ S.xa;have hcF:∀i:Int,M.xa.countP (λa=>iT a == i)=N.xa.countP λa=>iT a == i:=λi=>te (f:=λx:fJ=>(x.1,x.2.1)) (q:=λy=>y.1 == i) _ _ S.xa;refine⟨by rw[S.vs];exact hok.nv,by rw[hl];exact hok.na,by rw[S.nt];exact hok.nt,ht,λv hv=>by rw[S.nt];rw[S.vs]at hv;exact hok.verts_ v hv,λa ha=>?_,λi v t hv htt=>?_⟩
 .obtain⟨j,hj⟩:=List.getElem?_of_mem ha;have h2:=S.two j;rw[hj]at h2;cases hn:N.xa[j]? with
  | none=>rw[hn]at h2;cases h2
  | some b=>
   rw[hn]at h2;simp at h2;have:=hok.arcs_ b (List.mem_of_getElem? hn);rw[S.vs,h2.1,h2.2];exact⟨this.1,this.2.1,hw a ha⟩
 .rw[S.vs]at hv;have h2:(M.ts[v.2.2.toNat]?).map (λt=>(t.1,t.2.1))=(N.ts[v.2.2.toNat]?).map λt=>(t.1,t.2.1):=by
   rw[<-List.getElem?_map,<-List.getElem?_map,S.ts]
  rw[htt]at h2;cases hn:N.ts[v.2.2.toNat]? with
  | none=>rw[hn]at h2;cases h2
  | some b=>
   rw[hn]at h2;simp at h2;have:=hok.deg i v b hv hn;rw[hcT,hcF,h2.1,h2.2];exact this
theorem ab.setW_ok (hok:N.Ok){a:Nat}{w:Int}(hw:aU w=true):(N.setW a w).Ok:=(ab.setW_shp a w).ok hok (λx hx=>by
 rcases uW hx with rfl | h
 .exact hw
 .exact(hok.arcs_ x h).2.2) hok.types_
theorem ab.tb_ok (hok:N.Ok){t:Nat}(ht:t<N.ts.length):dM (N.tb t).1 (N.tb t).2.1 (N.tb t).2.2:=by
 have h1:N.ts[t]? = Y N.ts[t]:=List.getElem?_eq_getElem ht;have:N.tb t=N.ts[t]:=by simp[ab.tb,h1]
 rw[this];exact hok.types_ _ (List.getElem_mem ht)
theorem ab.bend_ok (hok:N.Ok){t i o:Nat}{c:Int}(ht:t<N.ts.length) (hc:aU c=true):(N.bend t i o c).Ok:=(ab.bend_shp t i o c).ok hok (λx hx=>(hok.arcs_ x hx).2.2) (λx hx=>by
 rcases uW hx with rfl | h
 .have:=ab.tb_ok hok ht;refine⟨this.ins_,this.outs_,by simpa[BQ]using this.len,λy hy=>?_⟩;rcases uW hy with rfl | h
  .exact hc
  .exact this.cost y h
 .exact hok.types_ x h)
theorem fW.do1 (hok:N.Ok){x:eQ}(h:fW N x):(N.do1 x).Ok:=by
 unfold ab.do1;rcases h.is with⟨e1,-⟩ | ⟨e1,ht,-⟩
 .rw[if_pos e1];exact ab.setW_ok hok h.w
 .rw[if_neg U];exact ab.bend_ok hok U h.w
theorem bV.tb (S:bV N M) (t:Nat):(M.tb t).1=(N.tb t).1/\(M.tb t).2.1=(N.tb t).2.1:=by
 have h2:(M.ts[t]?).map (λt=>(t.1,t.2.1))=(N.ts[t]?).map λt=>(t.1,t.2.1):=by
  rw[<-List.getElem?_map,<-List.getElem?_map,S.ts]
 unfold ab.tb;cases h1:M.ts[t]? <;>cases h3:N.ts[t]? <;>rw[h1,h3]at h2 <;>simp at h2 <;>simp[h2]
theorem fW.shp (S:bV N M){x:eQ}(h:fW N x):fW M x:=by
 refine⟨h.w,?_⟩;rcases h.is with⟨e1,e2,e3,e4⟩ | ⟨e1,⟨a1,a2⟩,a3,a4⟩
 .exact .inl ⟨e1,e2,by rw[S.na];exact e3,e4⟩
 .refine .inr ⟨e1,⟨a1,by rw[S.nt];exact a2⟩,?_,?_⟩
  .rw[(S.tb _).1];exact a3
  .rw[(S.tb _).2];exact a4
theorem ab.doL_ok (hok:N.Ok):∀(l:List eQ),(∀x∈l,fW N x)->(N.doL l).Ok:=by
 suffices ∀(l:List eQ) (M:ab),bV N M->M.Ok->(∀x∈l,fW N x)->(M.doL l).Ok from λl h=>this l N (bV.refl N) hok h
 intro l
 induction l with
 | nil=>exact λM _ h _=>h
 | cons x l ih=>
  intro M S hM h;exact ih (M.do1 x) (S.trans (ab.do1_shp x)) (((h x (by simp)).shp S).do1 hM) λy hy=>h y (List.mem_cons_of_mem _ hy)
def ab.ty (N:ab) (v:Nat):Int:=((N.vs[v]?).getD (0,0,0)).2.2
def FP (N:ab) (p:List (List Int)) (k c:Nat) (x:eQ):Prop:=
 (x.1=1/\N.w x.2.1.toNat≠x.2.2.2.2/\aG p k (N.fr x.2.1.toNat)=c/\aG p k (N.to x.2.1.toNat)=c)\/
 (x.1=2/\iN (N.tb x.2.1.toNat) x.2.2.1.toNat x.2.2.2.1.toNat≠x.2.2.2.2/\∃v,v<N.nv/\N.ty v=x.2.1/\aG p k v=c)
theorem qL {α:Type}{l:List α}{i:Nat}{x:α}(h:l[i]? = Y x):l.set i x=l:=by
 apply List.ext_getElem?;intro j;rw[List.getElem?_set];by_cases e:i=j
 .subst e;rw[if_pos rfl,if_pos (List.getElem?_eq_some_iff.1 h).1,h]
 .rw[if_neg e]
theorem BR {t:wH}(ht:dM t.1 t.2.1 t.2.2){i o:Nat}(hi:(i:Int)<t.1) (ho:(o:Int)<t.2.1):t.2.2[i*t.2.1.toNat+o]? = Y (iN t i o):=by
 obtain⟨a,b,l⟩:=t;have h1:=ht.len;have h2:=ht.outs_;have h3:=ht.ins_;obtain⟨m,rfl⟩:∃m:Nat,a=m:=⟨a.toNat,by simp at h3;omega⟩;obtain⟨n,rfl⟩:∃n:Nat,b=n:=⟨b.toNat,by simp at h2;omega⟩;simp only at h1 hi ho⊢;have h5:l.length=m*n:=by exact_mod_cast h1
 have h4:i*n+o<l.length:=by rw[h5];exact qH U U
 unfold iN;rw[if_pos ⟨hi,ho⟩];simp[List.getElem?_eq_getElem h4]
theorem ab.tab_tb (v:Nat):N.tab v=N.tb (N.ty v).toNat:=rfl
theorem ab.bend_tb {t i o:Nat}{c:Int}(s:Nat) (ht:t<N.ts.length):(N.bend t i o c).tb s=if s=t then BQ (N.tb t) i o c else N.tb s:=by
 unfold ab.bend;by_cases h:s=t
 .subst h;rw[if_pos rfl];show((N.ts.set s _)[s]?).getD _=_;rw[List.getElem?_set,if_pos rfl,if_pos ht];rfl
 .rw[if_neg h];have h':¬t=s:=λe=>h e.symm;show((N.ts.set t _)[s]?).getD _=_;rw[List.getElem?_set,if_neg h'];rfl
theorem yO (hok:N.Ok){k c:Nat}:∀(l:List eQ),(∀x∈l,fW N x)->(∀x∈l,¬FP N p k c x)->eM N (N.doL l) p k c:=by
 suffices ∀(l:List eQ) (M:ab),bV N M->eM N M p k c->(∀x∈l,fW N x)->(∀x∈l,¬FP N p k c x)->eM N (M.doL l) p k c from λl h1 h2=>this l N (bV.refl N) ⟨λ_ _ _=>rfl,λ_ _ _=>rfl⟩ h1 h2
 intro l
 induction l with
 | nil=>exact λM _ h _ _=>h
 | cons x l ih=>
  intro M S I h1 h2;refine ih (M.do1 x) (S.trans (ab.do1_shp x)) ?_ (λy hy=>h1 y (List.mem_cons_of_mem _ hy)) λy hy=>h2 y (List.mem_cons_of_mem _ hy);have hx:=h1 x (by simp);have hn:=h2 x (by simp);unfold ab.do1;rcases hx.is with⟨e1,e2,e3,e4,e5⟩ | ⟨e1,⟨a1,a2⟩,a3,a4⟩
  .rw[if_pos e1];refine⟨λa ha hw=>?_,λv hv hc=>I.tab v hv hc⟩;rw[ab.setW_w (by rw[S.na];omega)];by_cases h:a=x.2.1.toNat
   .rw[if_pos h,h];exact(Classical.byContradiction λhne=>hn (.inl ⟨e1,hne,h ▸ hw.1,h ▸ hw.2⟩)).symm
   .rw[if_neg h];exact I.w a ha hw
  .rw[if_neg U];refine⟨λa ha hw=>?_,λv hv hc=>?_⟩
   .show M.w a=N.w a;exact I.w a ha hw
   .have hty:(M.bend x.2.1.toNat x.2.2.1.toNat x.2.2.2.1.toNat x.2.2.2.2).ty v=N.ty v:=by
     show((M.vs[v]?).getD _).2.2=_;rw[S.vs];rfl
    have hvy:0<=N.ty v:=by
     have h1:N.vs[v]? = Y (N.vs[v]'hv):=List.getElem?_eq_getElem hv;have:=(hok.verts_ _ (List.mem_of_getElem? h1)).2.2;simp only[ab.ty,h1,Option.getD_some];exact this.1
    rw[ab.tab_tb,hty,ab.bend_tb _ (by rw[S.nt];omega)];have hI:=I.tab v hv hc;have htM:M.ty v=N.ty v:=by unfold ab.ty;rw[S.vs]
    rw[ab.tab_tb,ab.tab_tb,htM]at hI;by_cases h:(N.ty v).toNat=x.2.1.toNat
    .rw[if_pos h,<-h,hI];have h6:iN (N.tb x.2.1.toNat) x.2.2.1.toNat x.2.2.2.1.toNat=x.2.2.2.2:=Classical.byContradiction λhne=>hn (.inr ⟨e1,hne,v,hv,U,hc⟩);have h7:=BR (ab.tb_ok hok (t:=x.2.1.toNat) U) (i:=x.2.2.1.toNat) (o:=x.2.2.2.1.toNat) U U;rw[h6]at h7;unfold BQ;rw[h,qL h7,ab.tab_tb,h]
    .rw[if_neg h,hI];rfl
end
end
section
open Go
structure kS (I L:Nat) (e lp:Nat->Nat->Option Nat) (fr to_:Nat->Nat) (cell:Nat->Nat->Nat) (lev:Nat->Nat) (mk:Nat->Prop):Prop where
 ends:∀a b x,e a b=Y x->fr b=to_ a
 nest:∀l k u v,1<=l->l<=k->k<=L->cell l u=cell l v->cell k u=cell k v
 lev_le:∀v,lev v<=L
 lev_out:∀v,0<lev v->∀m,mk m->cell (lev v) v≠cell (lev v) m
 lev_max:∀v k,lev v<k->k<=L->∃m,mk m/\cell k v=cell k m
 real:∀a b x,0<lev (to_ a)->lp a b=Y x->∃d c y,aA e (λd=>cell (lev (to_ a)) (fr d)=cell (lev (to_ a)) (to_ a)/\cell (lev (to_ a)) (to_ d)=cell (lev (to_ a)) (to_ a)) a d c/\e d b=Y y/\x=c+y
 least:∀a d c b y,0<lev (to_ a)->cell (lev (to_ a)) (fr a)≠cell (lev (to_ a)) (to_ a)->aA e (λd=>cell (lev (to_ a)) (fr d)=cell (lev (to_ a)) (to_ a)/\cell (lev (to_ a)) (to_ d)=cell (lev (to_ a)) (to_ a)) a d c->e d b=Y y->
  cell (lev (to_ a)) (fr b)=cell (lev (to_ a)) (to_ a)->cell (lev (to_ a)) (to_ b)≠cell (lev (to_ a)) (to_ a)->c+y<I->∃x,lp a b=Y x/\x<=c+y
section
variable {I L:Nat}{e lp:Nat->Nat->Option Nat}{fr to_:Nat->Nat}{cell:Nat->Nat->Nat}{lev:Nat->Nat}{s t:Nat}{mk:Nat->Prop}
theorem kS.goes (h:kS I L e lp fr to_ cell lev mk){a b c:Nat}(hg:ch (iM e lp to_ lev) a b c):ch e a b c:=by
 induction hg with
 | here=>exact .here
 | @on p q c x hg he ih=>
  unfold iM at he;by_cases h0:lev (to_ p)=0
  .rw[if_pos h0]at he;exact .on ih he
  .rw[if_neg h0]at he;obtain⟨d,c1,y,h1,h2,rfl⟩:=h.real p q x U he;have:∀{d c1:Nat},aA e (λd=>cell (lev (to_ p)) (fr d)=cell (lev (to_ p)) (to_ p)/\cell (lev (to_ p)) (to_ d)=cell (lev (to_ p)) (to_ p)) p d c1->ch e a d (c+c1):=λhw=>by
    induction hw with
    | here=>simpa using ih
    | on _ he' _ ih'=>rw[<-Nat.add_assoc];exact .on ih' he'
   rw[<-Nat.add_assoc];exact .on (this h1) h2
theorem kS.found (h:kS I L e lp fr to_ cell lev mk) (ht:mk (fr t)):∀(n a c:Nat),yK e t a c n->(0<lev (to_ a)->cell (lev (to_ a)) (fr a)≠cell (lev (to_ a)) (to_ a))->c<I->∃c' n',c'<=c/\yK (iM e lp to_ lev) t a c' n':=by
 intro n
 induction n using Nat.strongRecOn with
 | ind n ih=>
  intro a c hw hp hc;by_cases hat:a=t
  .subst hat;exact⟨0,0,Nat.zero_le _,.stop⟩
  .by_cases h0:lev (to_ a)=0
   .cases hw with
    | stop=>exact absurd rfl hat
    | @on _ b x c n he hw=>
     obtain⟨c',n',g1,g2⟩:=ih n U b c hw (λhl=>by
      rw[h.ends a b x he];obtain⟨m,hm,k3⟩:=h.lev_max (to_ a) (lev (to_ b)) U (h.lev_le _);rw[k3];exact λe=>h.lev_out (to_ b) hl m hm e.symm) U
     exact⟨x+c',n' + 1,U,.on (by rw[iM,if_pos h0];exact he) g2⟩
   .have hl:0<lev (to_ a):=U;have o2:=h.lev_out (to_ a) hl _ ht;obtain⟨d',c1,b,y,c2,n2,g1,g2,g3,g4,g5,g6,g7⟩:=leave (a:=a) (k:=lev (to_ a)) (C:=cell (lev (to_ a)) (to_ a)) (c0:=0) (d:=a) h.ends (λe=>o2 e.symm) hw .here rfl hat;obtain⟨x,k1,k2⟩:=h.least a d' c1 b y hl (hp hl) g1 g2 g3 g4 U;obtain⟨c',n',k3,k4⟩:=ih n2 g6 b c2 g5 (λhlb heq=>by
     rcases Nat.lt_or_ge (lev (to_ a)) (lev (to_ b)) with q | q
     .have e1:=h.nest _ _ _ _ hl (Nat.le_of_lt q) (h.lev_le _) g3;obtain⟨m,hm,k5⟩:=h.lev_max (to_ a) (lev (to_ b)) q (h.lev_le _);exact h.lev_out (to_ b) hlb m hm (by rw[<-heq,e1,k5])
     .have e1:=h.nest _ _ _ _ hlb q (h.lev_le _) heq;exact g4 (by rw[<-e1];exact g3)) U
    exact⟨x+c',n' + 1,U,.on (by rw[iM,if_neg h0];exact k1) k4⟩
theorem kS.law (h:kS I L e lp fr to_ cell lev mk) (hs:mk (to_ s)) (ht:mk (fr t)){d:Nat}(hd:jk I (iM e lp to_ lev) s t d):jk I e s t d:=by
 refine⟨hd.le,λc hg=>?_,λhh=>h.goes (hd.way hh)⟩;rcases Nat.lt_or_ge c I with hc | hc
 .obtain⟨n,hw⟩:=hg.way;obtain⟨c',n',k1,k2⟩:=h.found ht n s c hw (λhl=>absurd rfl (h.lev_out (to_ s) hl _ hs)) hc;have:=hd.least c' k2.goes;omega
 .have:=hd.le;omega
end
end
section
open Go Go.RowKit
open Classical in
end
section
open Go Go.RowKit
end
section
open Go Go.RowKit
end
section
open Go Go.RowKit
end
end Go.Proofs.YtaagdjkinbemcaaGreatDoor
