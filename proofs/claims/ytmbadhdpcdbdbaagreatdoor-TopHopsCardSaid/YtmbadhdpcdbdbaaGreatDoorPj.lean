/-
Lemmas for TopHops. No condition.
-/
import Derived.Test.YtmbadhdpcdbdbaaGreatDoorPi
namespace Go.Proofs.YtmbadhdpcdbdbaaGreatDoor
open _root_.Option renaming some->ω
set_option linter.unusedVariables false
set_option linter.unusedSimpArgs false
set_option linter.unusedSectionVars false
set_option linter.unnecessarySimpa false
section
open Go Go.RowKit
def wC (f:Nat->Bool):Nat->Nat
 | 0=>0
 | n+1=>if wC f n=0 then(if f (n+1)=true then n+1 else 0) else wC f n
theorem re {f:Nat->Bool}:∀{n:Nat},(∀j,1<=j->j<=n->f j=false)->wC f n=0
 | 0,_=>rfl
 | n+1,h=>by
  unfold wC;rw[if_pos (re λj h1 h2=>h j h1 U),if_neg (by simp[h (n+1) U U])]
theorem xR {f:Nat->Bool}{k:Nat}(h1:1<=k) (hk:f k=true) (hb:∀j,1<=j->j<k->f j=false):∀{n:Nat},k<=n->wC f n=k
 | 0,h=>U
 | n+1,h=>by
  unfold wC;by_cases e:k=n+1
  .subst e;rw[if_pos (re λj h1 h2=>hb j h1 U),if_pos hk]
  .have:=xR h1 hk hb (n:=n) U;rw[this,if_neg U]
def fo (x:Nat->Nat) (k:Nat):Nat->Nat
 | 0=>0
 | n+1=>fo x k n+(if x n=k then 1 else 0)
theorem uE (x:Nat->Nat):∀n,fo x 1 n+fo x 2 n+fo x 3 n+fo x 4 n+fo x 5 n+fo x 6 n<=n
 | 0=>by simp[fo]
 | n+1=>by
  have ih:=uE x n;have one:∀v:Nat,(if v=1 then 1 else 0)+(if v=2 then 1 else 0)+(if v=3 then 1 else 0)+(if v=4 then 1 else 0)+(if v=5 then 1 else 0)+(if v=6 then 1 else 0)<=(1:Nat):=λv=>by
   (repeat' split) <;>omega
  have:=one (x n);simp only[fo];omega
theorem zt {x:Nat->Nat}{k n:Nat}{l:List Nat}(hn:l.Nodup) (h:∀a∈l,a<n/\x a=k):l.length<=fo x k n:=by
 induction n generalizing l with
 | zero=>
  cases l with
  | nil=>exact Nat.le_refl _
  | cons a l=>exact absurd (h a (by simp)).1 (Nat.not_lt_zero _)
 | succ n ih=>
  by_cases hm:n∈l
  .have h1:=ih (l:=l.erase n) (hn.erase n) (λa ha=>by
    have h2:=(List.Nodup.mem_erase_iff hn).1 ha;have:=h a h2.2;have:=h2.1;exact⟨U,U⟩)
   rw[List.length_erase_of_mem hm]at h1;simp only[fo,if_pos (h n hm).2];omega
  .have h1:=ih hn λa ha=>by
    have h2:=h a ha;have:a≠n:=λe=>hm (e ▸ ha);exact⟨U,h2.2⟩
   simp only[fo];omega
theorem F7 (x y:Nat):4*(x*y)<=(x+y)*(x+y):=by
 rcases Nat.le_total x y with h | h
 .obtain⟨d,rfl⟩:=Nat.exists_eq_add_of_le h;simp only[Nat.mul_add,Nat.add_mul];have:=Nat.mul_comm d x;omega
 .obtain⟨d,rfl⟩:=Nat.exists_eq_add_of_le h;simp only[Nat.mul_add,Nat.add_mul];have:=Nat.mul_comm d y;omega
theorem IL {a b c d e f:Nat}(h:a+b+c+d+e+f<=306):a*b*(c*d)*(e*f)<=17596287801:=by
 obtain⟨u,hu⟩:∃u,a+b=u:=⟨_,rfl⟩;obtain⟨v,hv⟩:∃v,c+d=v:=⟨_,rfl⟩;obtain⟨w,hw⟩:∃w,e+f=w:=⟨_,rfl⟩;have h1:=F7 a b;have h2:=F7 c d;have h3:=F7 e f;rw[hu]at h1;rw[hv]at h2;rw[hw]at h3;have h4:=Nat.mul_le_mul (Nat.mul_le_mul h1 h2) h3;have h5:4*(a*b)*(4*(c*d))*(4*(e*f))=64*(a*b*(c*d)*(e*f)):=by
  rw[show(64:Nat)=4*(4*4) from rfl]
  ac_rfl
 have h6:u*u*(v*v)*(w*w)=u*v*w*(u*v*w):=by ac_rfl
 rw[h5,h6]at h4;have h7:u*v*w<=1061208:=by
  have g1:=F7 u v;have g2:=F7 w 102;have g3:=F7 (u+v) (w+102);have g4:(u+v+(w+102))*(u+v+(w+102))<=408*408:=Nat.mul_le_mul U U;have g5:(u+v)*(w+102)<=41616:=U;have g6:=Nat.mul_le_mul g1 g2;have g7:=Nat.mul_le_mul g5 g5;have e1:4*(u*v)*(4*(w*102))=1632*(u*v*w):=by
   rw[show(1632:Nat)=4*(4*102) from rfl]
   ac_rfl
  have e2:(u+v)*(u+v)*((w+102)*(w+102))=(u+v)*(w+102)*((u+v)*(w+102)):=by ac_rfl
  rw[e1,e2]at g6;omega
 have h8:=Nat.mul_le_mul h7 h7;omega
def gm (x:Nat->Nat) (n:Nat):Nat->Nat
 | 0=>1
 | k+1=>gm x n k*(fo x (k+1) n+1)
theorem ph (x:Nat->Nat) (n k:Nat):∀j,gm x n k<=gm x n (k+j)
 | 0=>Nat.le_refl _
 | j+1=>Nat.le_trans (ph x n k j) (Nat.le_mul_of_pos_right _ (Nat.succ_pos _))
theorem pi {x:Nat->Nat}{n k:Nat}(hn:n<=300) (hk:k<=6):gm x n k<=17596287801:=by
 obtain⟨j,hj⟩:∃j,k+j=6:=⟨6 - k,U⟩;refine Nat.le_trans (ph x n k j) ?_;rw[hj];have h6:=uE x n;have h:=IL (a:=fo x 1 n+1) (b:=fo x 2 n+1) (c:=fo x 3 n+1) (d:=fo x 4 n+1) (e:=fo x 5 n+1) (f:=fo x 6 n+1) U;refine Nat.le_trans (Nat.le_of_eq ?_) h;simp only[gm,Nat.one_mul,Nat.zero_add,Nat.reduceAdd]
 ac_rfl
def ez:Nat->Nat
 | 0=>0
 | k+1=>1+302*ez k
section
variable {N:ab}{p:List (List Int)}{k c:Nat}{ent:Nat->Nat->Nat->Int}{s t v:Nat}
def ab.xlev (N:ab) (p:List (List Int)) (a:Nat):Nat:=wC (λk=>!(N.crs p k a)) p.length
theorem xS (hok:N.Ok) (hp:aB N.nv p) (h1:1<=k) (hkl:k<=p.length){a:Nat}(ha:a<N.na) (hw:N.win p k c a) (hb:k=1\/ap p (k - 1) (N.fr a)≠ap p (k - 1) (N.to a)):N.xlev p a=k:=by
 refine xR h1 ?_ (λj j1 j2=>?_) hkl
 .simp[ab.crs,hw.1,hw.2]
 .have hb':=hb.resolve_left U;have:ap p j (N.fr a)≠ap p j (N.to a):=λe=>hb' (cX hp j1 U U (ab.fr_lt hok ha).1 (ab.to_lt hok ha).1 e);simp[ab.crs,this]
theorem bm.mids {e tr:Nat->Nat->Option Nat}{P:Nat->Prop}{t a c:Nat}{l:List Nat}(h:bm e tr P t a c l):∃l',l=l' ++ [t]/\∀m∈l',∃b x,e b m=ω x:=by
 induction h with
 | last _=>exact⟨[],rfl,λm hm=>by cases hm⟩
 | @on a m x c l h1 _ _ ih=>
  obtain⟨l',rfl,h2⟩:=ih;refine⟨m :: l',rfl,λz hz=>?_⟩;rcases List.mem_cons.1 hz with rfl | hz
  .exact⟨_,_,h1⟩
  .exact h2 z hz
theorem rf (hok:N.Ok) (hp:aB N.nv p) (h1:1<=k) (hkl:k<=p.length){x:Nat}{l:List Nat}(h:bm (ke N p k c ent) (pg N p k c ent) (λ_=>True) t s x l) (hn:l.Nodup):l.length<=fo (N.xlev p) k N.na+1:=by
 obtain⟨l',rfl,hm⟩:=h.mids;have hn':=(List.nodup_append.1 hn).1;rw[List.length_append];have:l'.length<=fo (N.xlev p) k N.na:=zt hn' λa ha=>by
  obtain⟨b,y,he⟩:=hm a ha;unfold ke at he;by_cases hk:k=1
  .rw[if_pos hk]at he
   split at he
   .rename_i hw;have han:=zq he;exact⟨han,xS hok hp h1 hkl han hw (.inl hk)⟩
   .cases he
  .rw[if_neg hk]at he;obtain⟨g1,g2,g3,g4,g5,-⟩:=kS hok hp U hkl he;exact⟨g3,xS hok hp h1 hkl g3 g2 (.inr λe=>g5.2 (by rw[<-e];exact g5.1))⟩
 simp;omega
end
end
section
open Go Go.RowKit
def xT (N:ab) (P:Nat->Bool):Nat->List Nat->Int->Option Int
 | _,[],c=>ω c
 | a,[b],c=>if N.turn a b=an then none else ω (ck c (N.turn a b))
 | a,b :: b' :: l,c=>if N.turn a b=an\/P b=false\/N.w b=an then none else xT N P b (b' :: l) (ck (ck c (N.turn a b)) (N.w b))
section
variable {N:ab}{P:Nat->Bool}{Q:Nat->Prop}{a b t c:Nat}{l:List Nat}{x y:Int}
theorem kT (a b:Nat) (x:Int):xT N P a [b] x=if N.turn a b=an then none else ω (ck x (N.turn a b)):=rfl
theorem sR (hl:l≠[]) (a b:Nat) (x:Int):xT N P a (b :: l) x=if N.turn a b=an\/P b=false\/N.w b=an then none else xT N P b l (ck (ck x (N.turn a b)) (N.w b)):=by
 cases l with
 | nil=>exact absurd rfl hl
 | cons b' l=>rfl
theorem uF {c x:Int}(hc:0<=c/\c<=an) (hx:0<=x/\x<=an):ck c x=min (c+x) an:=by
 unfold an at *;rw[iK,cD hc.1 hc.2,cD hx.1 hx.2]
theorem Dy (hok:N.Ok) (hP:∀b,b<N.na->Q b->P b=true) (h:bm N.e N.tr Q t a c l):∀{x:Int},0<=x->x+c<an->xT N P a l x=ω (x+c):=by
 induction h with
 | @last a y h=>
  intro x hx hc;obtain⟨h1,rfl⟩:=ab.tr_some.1 h;have hb:=(ab.turn_bd hok a t).1;rw[kT,if_neg (by unfold an at *;omega),uF U U]
  congr 1
  unfold an at *;omega
 | @on a m y c l h1 h2 h3 ih=>
  intro x hx hc;obtain⟨g1,g2,rfl⟩:=ab.e_some.1 h1;have hb:=(ab.turn_bd hok a m).1;have hw:=(ab.w_bd hok m).1;have hl:=h3.len;have e1:=uF (c:=x) (x:=N.turn a m) (by unfold an at *;omega) (by unfold an at *;omega);have e2:=uF (c:=ck x (N.turn a m)) (x:=N.w m) (by rw[e1];unfold an at *;omega) (by unfold an at *;omega);have e3:ck (ck x (N.turn a m)) (N.w m)=x+(N.turn a m+N.w m):=by rw[e2,e1];unfold an at *;omega
  rw[sR (by intro e;rw[e]at hl;exact absurd hl (Nat.lt_irrefl _)),if_neg (by
   rintro(h | h | h)
   .unfold an at *;omega
   .rw[hP m (zq h1) h2]at h;cases h
   .unfold an at *;omega),e3,ih U (by unfold an at *;omega)]
  congr 1
  omega
theorem uG (hok:N.Ok) (hP:∀b,b<N.na->P b=true->Q b):∀(l:List Nat) (a:Nat) (x y:Int),l≠[]->0<=x/\x<=an->xT N P a l x=ω y->∃t c,(∃l',l=l' ++ [t])/\bm N.e N.tr Q t a c l/\y=min (x+c) an
 | [],_,_,_,h,_,_=>absurd rfl h
 | [b],a,x,y,_,hx,h=>by
  rw[kT]at h
  split at h
  .cases h
  .rename_i hn;have hb:=ab.turn_bd hok a b;have hlt:N.turn a b<an:=by unfold an at *;omega
   have e:=uF (c:=x) (x:=N.turn a b) hx (by unfold an at *;omega);have h':=Option.some.inj h;exact⟨b,(N.turn a b).toNat,⟨[],rfl⟩,.last (ab.tr_some.2 ⟨hlt,rfl⟩),by rw[<-h',e];unfold an at *;omega⟩
 | b :: b' :: l,a,x,y,_,hx,h=>by
  rw[sR (by simp)]at h
  split at h
  .cases h
  .rename_i hn;have hb:=ab.turn_bd hok a b;have hw:=ab.w_bd hok b;have n1:¬N.turn a b=an:=λe=>hn (.inl e);have n2:P b=true:=by
    cases hp:P b with
    | true=>rfl
    | false=>exact absurd (.inr (.inl hp)) hn
   have n3:¬N.w b=an:=λe=>hn (.inr (.inr e));have hlt:N.turn a b<an:=by unfold an at *;omega
   have hlw:N.w b<an:=by unfold an at *;omega
   have e1:=uF (c:=x) (x:=N.turn a b) hx (by unfold an at *;omega);have e2:=uF (c:=ck x (N.turn a b)) (x:=N.w b) (by rw[e1];unfold an at *;omega) (by unfold an at *;omega);obtain⟨t,c,⟨l',h1⟩,h2,h3⟩:=uG hok hP (b' :: l) b _ y (by simp) (by rw[e2,e1];unfold an at *;omega) h;exact⟨t,_,⟨b :: l',by rw[h1];rfl⟩,.on (ab.e_some.2 ⟨hlt,hlw,rfl⟩) (hP b (ab.turn_in hlt).2.1 n2) h2,by rw[h3,e2,e1];unfold an at *;omega⟩
theorem bm.cost (hok:N.Ok) (h:bm N.e N.tr Q t a c l):c<=l.length*4294967296:=by
 induction h with
 | @last a y h=>
  obtain⟨h1,rfl⟩:=ab.tr_some.1 h;have:=ab.turn_bd hok a t;simp only[List.length_cons,List.length_nil];unfold an at *;omega
 | @on a m y c l h1 h2 h3 ih=>
  obtain⟨g1,g2,rfl⟩:=ab.e_some.1 h1;have:=ab.turn_bd hok a m;have:=ab.w_bd hok m;rw[List.length_cons,Nat.succ_mul];unfold an at *;omega
theorem bm.thru {v:Int}(h:bm N.e N.tr Q t a c l) (T:gg N Q a t v):v<=c:=by
 obtain⟨d,c',y,h1,h2,rfl⟩:=h.within;exact T.least d c' y h1 h2
theorem bm.lt (h:bm N.e N.tr Q t a c l):∀b∈l,b<N.na:=by
 induction h with
 | @last a y h=>
  intro b hb;have:b=t:=by simpa using hb
  rw[this];exact(ab.turn_in (ab.tr_some.1 h).1).2.1
 | @on a m y c l h1 h2 h3 ih=>
  intro b hb;rcases List.mem_cons.1 hb with rfl | hb
  .exact zq h1
  .exact ih b hb
end
end
section
open Go Go.RowKit
structure pj (M:ab) (p:List (List Int)) (k:Nat) (rs:List Int) (s t:Nat) (l:List Nat):Prop where
 eq:rs=ints (s :: l)
 lt:∀b∈s :: l,b<M.na
 last:∃l',l=l' ++ [t]
 in_:M.inA p k (ap p k (M.to s)) s
 out:M.outA p k (ap p k (M.to s)) t
def kU (M:ab) (p:List (List Int)) (k s b:Nat):Bool:=decide (ap p k (M.fr b)=ap p k (M.to s)) && decide (ap p k (M.to b)=ap p k (M.to s))
theorem pk {M:ab}{p:List (List Int)}{k s b:Nat}:kU M p k s b=true↔M.win p k (ap p k (M.to s)) b:=by
 unfold kU ab.win;simp
section
variable {M:ab}{p:List (List Int)}{costs:List Int}{k s t:Nat}{l:List Nat}{rs:List Int}{x:Int}
theorem pj.ne (T:pj M p k rs s t l):l≠[]:=by
 obtain⟨l',h⟩:=T.last;rw[h];simp
theorem pj.lts (T:pj M p k rs s t l):s<M.na/\t<M.na:=by
 obtain⟨l',h⟩:=T.last;exact⟨T.lt s (by simp),T.lt t (by rw[h];simp)⟩
theorem pj.least (T:pj M p k rs s t l) (hok:M.Ok) (hp:aB M.nv p) (hco:bG M p costs) (h1:1<=k) (hkl:k<=p.length) (hl:l.length<=200) (hg:xT M (kU M p k s) s l 0=ω x):M.ent p costs k s t<=x/\x<an:=by
 obtain⟨t',c,⟨l',hl'⟩,hr,hx⟩:=uG (Q:=M.win p k (ap p k (M.to s))) hok (λb _ hb=>pk.1 hb) l s 0 x T.ne (by unfold an;omega) hg;obtain⟨l2,hl2⟩:=T.last;have e:t' = t:=by
  rw[hl2]at hl';have:=congrArg List.getLast? hl';simpa using this.symm
 subst e;have TH:=hco.entOk hok hp k s t' h1 hkl T.lts.1 T.lts.2 T.in_ T.out;have h2:=hr.thru TH;have h3:=hr.cost hok;have h4:=TH.bd;have h5:l.length*4294967296<=200*4294967296:=Nat.mul_le_mul_right _ hl;unfold an at *;omega
theorem BJ (hok:M.Ok) (hs:s<M.na) (hin:M.inA p k (ap p k (M.to s)) s) (hout:M.outA p k (ap p k (M.to s)) t) (h0:0<=M.ent p costs k s t) (hlt:M.ent p costs k s t<an)
  (hr:bm M.e M.tr (M.win p k (ap p k (M.to s))) t s (M.ent p costs k s t).toNat l):pj M p k (ints (s :: l)) s t l/\xT M (kU M p k s) s l 0=ω (M.ent p costs k s t):=by
 refine⟨⟨rfl,λb hb=>?_,hr.end_,hin,hout⟩,?_⟩
 .rcases List.mem_cons.1 hb with rfl | hb
  .exact hs
  .exact hr.lt b hb
 .have:=Dy (P:=kU M p k s) hok (λb _ hb=>pk.2 hb) hr (x:=0) (Int.le_refl _) U;rw[this]
  congr 1
  omega
end
end
section
open Go Go.RowKit
def sS (N:ab) (p:List (List Int)) (k c:Nat) (ent:Nat->Nat->Nat->Int) (s t x:Nat) (ls:List Nat) (j cur:Nat) (l1:List Nat):Prop:=
 (∃x1 x2,j<ls.length/\x1+x2=x/\bm (ke N p k c ent) (pg N p k c ent) (λ_=>True) t cur x2 (ls.drop j)/\∀c2 l2,bm N.e N.tr (N.win p k c) t cur c2 l2->bm N.e N.tr (N.win p k c) t s (x1+c2) (l1 ++ l2))\/
 (j=ls.length/\bm N.e N.tr (N.win p k c) t s x l1)
section
variable {N:ab}{p:List (List Int)}{k c:Nat}{ent:Nat->Nat->Nat->Int}{s t x j cur b:Nat}{ls l1:List Nat}
theorem sS.start (h:bm (ke N p k c ent) (pg N p k c ent) (λ_=>True) t s x ls):sS N p k c ent s t x ls 0 s []:=
 .inl ⟨0,x,h.len,U,by simpa using h,λc2 l2 h2=>by simpa using h2⟩
theorem sS.all (h:sS N p k c ent s t x ls j cur l1) (hj:ls.length<=j):bm N.e N.tr (N.win p k c) t s x l1:=by
 rcases h with⟨x1,x2,h1,-⟩ | ⟨-,h⟩
 .omega
 .exact h
theorem sS.step (hok:N.Ok) (hp:aB N.nv p) (hk:2<=k) (hkl:k<=p.length) (h:sS N p k c ent s t x ls j cur l1) (hb:ls[j]? = ω b) :
  cur<N.na/\N.inA p (k - 1) (ap p (k - 1) (N.to cur)) cur/\b∈N.outs p (k - 1) (ap p (k - 1) (N.to cur))/\ent (k - 1) cur b<an/\
  ∀l2,bm N.e N.tr (N.win p (k - 1) (ap p (k - 1) (N.to cur))) b cur (ent (k - 1) cur b).toNat l2->sS N p k c ent s t x ls (j+1) b (l1 ++ l2):=by
 have hjl:=(List.getElem?_eq_some_iff.1 hb).1;have hk1:k≠1:=U;rcases h with⟨x1,x2,h1,hx,hr,hg⟩ | ⟨e,-⟩
 .have hd:ls.drop j=b :: ls.drop (j+1):=by rw[List.drop_eq_getElem_cons hjl];congr 1;exact(List.getElem?_eq_some_iff.1 hb).2
  rw[hd]at hr;obtain⟨rest,hrest⟩:∃rest,ls.drop (j+1)=rest:=⟨_,rfl⟩;rw[hrest]at hr;cases hr with
  | last h=>
   have hlen:j+1=ls.length:=by
    have:=congrArg List.length hrest;rw[List.length_drop]at this;simp at this;omega
   have h':=h;unfold pg at h';rw[if_neg hk1]at h';obtain⟨g1,g2,g3,g4,rfl⟩:=ek.1 h';exact⟨g1.1,g1.2.2,g3,g4,λl2 hl=>.inr ⟨hlen,by rw[<-hx];exact hg _ _ (zr hok hp hk hkl h' hl)⟩⟩
  | @on _ _ y c' _ h h0 hr=>
   have h':=h;unfold ke at h';rw[if_neg hk1]at h';obtain⟨g1,g2,g3,g4,g5,g6,g7,g8⟩:=kS hok hp hk hkl h';refine⟨g1.1,g4,ab.mem_outs.2 ⟨g3,g5⟩,g6,λl2 hl=>.inl ⟨x1+y,c',?_,U,by rw[hrest];exact hr,λc2 l3 h3=>?_⟩⟩
   .have:=hr.len;rw[<-hrest,List.length_drop]at this;omega
   .have:=hg _ _ (Dx hok hp hk hkl h' hl h3);rw[Nat.add_assoc,List.append_assoc];exact this
 .omega
end
end
end Go.Proofs.YtmbadhdpcdbdbaaGreatDoor
