/-
A part of the proof of TopShut: lemmas that the last text joins. No condition.
-/
import Derived.Test.YteffnclboadalaaGreatDoorPi
namespace Go.Proofs.YteffnclboadalaaGreatDoor
set_option linter.unusedVariables false
set_option linter.unusedSimpArgs false
set_option linter.unusedSectionVars false
set_option linter.unnecessarySimpa false
open Go Go.RowKit
def srcZ (s z a:Nat):Nat:=if a=z then s else a
def inE (e:Nat→Nat→Option Nat) (P:Nat→Bool) (s z a b:Nat):Option Nat:=if P b=true then e (srcZ s z a) b else none
section
variable {I:Nat} {e tr:Nat→Nat→Option Nat} {P:Nat→Bool} {s z t:Nat}
theorem inE_some {a b x:Nat}:inE e P s z a b=some x↔P b=true∧e (srcZ s z a) b=some x:=by
 unfold inE
 by_cases h:P b=true
 ·rw [if_pos h]; exact ⟨fun g=>⟨h,g⟩,fun g=>g.2⟩
 ·rw [if_neg h]; exact ⟨fun g=>by (cases g),fun g=>absurd g.1 h⟩
theorem inE_goes (hz:∀ a,e a z=none) {b c:Nat} (h:Goes (inE e P s z) z b c):Within e (fun x=>P x=true) s (srcZ s z b) c:=by
 induction h with
 | here=>unfold srcZ; rw [if_pos rfl]; exact .here
 | @on a b c x hg he ih=>
  obtain ⟨h1,h2⟩:=inE_some.1 he
  have hb:b≠z:=fun e'=>by rw [e',hz] at h2; cases h2
  have:srcZ s z b=b:=by unfold srcZ; rw [if_neg hb]
  rw [this]
  exact .on ih h2 h1
theorem inE_within (hz:∀ a,e a z=none) {b c:Nat} (h:Within e (fun x=>P x=true) s b c):∃ b',srcZ s z b' = b∧Goes (inE e P s z) z b' c:=by
 induction h with
 | here=>exact ⟨z,by unfold srcZ; rw [if_pos rfl],.here⟩
 | @on b d c x hw he hp ih=>
  obtain ⟨b',h1,h2⟩:=ih
  have hb:d≠z:=fun e'=>by rw [e',hz] at he; cases he
  exact ⟨d,by unfold srcZ; rw [if_neg hb],.on h2 (inE_some.2 ⟨hp,by rw [h1]; exact he⟩)⟩
structure Best (I:Nat) (tr:Nat→Nat→Option Nat) (s z t:Nat) (done:Nat→Option Nat) (v:Nat):Prop where
 le:v≤I
 least:∀ a c y,done a=some c→tr (srcZ s z a) t=some y→v≤c+y
 way:v<I→∃ a c y,done a=some c∧tr (srcZ s z a) t=some y∧v=c+y
theorem Best.law {done w:Nat→Option Nat} {v:Nat} (hz:∀ a,e a z=none) (B:Best I tr s z t done v) (D:Dij I (inE e P s z) z done (finQ I w)) (hq:∀ b c,w b=some c→v≤c) :
  (∀ a c y,Within e (fun x=>P x=true) s a c→tr a t=some y→v≤c+y)∧(v<I→∃ a c y,Within e (fun x=>P x=true) s a c∧tr a t=some y∧v=c+y):=by
 have hle:=B.le
 refine ⟨fun a c y hw hy=>?_,fun hv=>?_⟩
 ·obtain ⟨b,rfl,hg⟩:=inE_within (P:=P) (s:=s) hz hw
  cases hd:done b with
  | some cb=>
   have h1:=(D.fin b cb hd).2.2 c hg
   have h2:=B.least b cb y hd hy
   omega
  | none=>
   rcases Nat.lt_or_ge c I with hc | hc
   ·obtain ⟨b',c',h1,h2⟩:=D.cut hg hc hd
    have:=hq b' c' (finQ_some.1 h1).1
    omega
   ·omega
 ·obtain ⟨a,c,y,h1,h2,h3⟩:=B.way hv
  exact ⟨_,c,y,inE_goes hz (D.fin a c h1).2.1,h2,h3⟩
theorem Best.round {done:Nat→Option Nat} {v k c:Nat} (B:Best I tr s z t done v) (hd:done k=none) {v':Nat} (hv:v' = match tr (srcZ s z k) t with | some y=>min v (min (c+y) I) | none=>v):Best I tr s z t (upd done k (some c)) v':=by
 have hle:=B.le
 have old:∀ a ca,done a=some ca→upd done k (some c) a=some ca:=fun a ca ha=>by
  have:a≠k:=fun e=>by rw [e,hd] at ha; cases ha
  simp [upd,this,ha]
 cases hk:tr (srcZ s z k) t with
 | none=>
  rw [hk] at hv
  subst hv
  refine ⟨hle,fun a ca y ha hy=>?_,fun hv=>?_⟩
  ·by_cases e:a=k
   ·rw [e,hk] at hy; cases hy
   ·simp only [upd,if_neg e] at ha
    exact B.least a ca y ha hy
  ·obtain ⟨a,ca,y,h1,h2,h3⟩:=B.way hv
   exact ⟨a,ca,y,old a ca h1,h2,h3⟩
 | some y0=>
  rw [hk] at hv
  simp only at hv
  refine ⟨by omega,fun a ca y ha hy=>?_,fun hv'=>?_⟩
  ·by_cases e:a=k
   ·rw [e] at ha hy
    rw [hk] at hy
    obtain rfl:=Option.some.inj hy
    simp only [upd,if_pos] at ha
    obtain rfl:=Option.some.inj ha
    omega
   ·simp only [upd,if_neg e] at ha
    have:=B.least a ca y ha hy
    omega
  ·rcases Nat.lt_or_ge (c+y0) v with h | h
   ·exact ⟨k,c,y0,by simp [upd],hk,by omega⟩
   ·obtain ⟨a,ca,y,h1,h2,h3⟩:=B.way (by omega)
    exact ⟨a,ca,y,old a ca h1,h2,by omega⟩
end
def shutC (l:List Int):List Chg:=l.map fun a=>(1,a,0,0,INF)
structure Shut (N M:NetD) (l:List Int):Prop where
 shp:Shp N M
 turn:∀ a b,M.turn a b=N.turn a b
 w:∀ b,M.w b=if (b:Int)∈l then INF else N.w b
section
variable {N M:NetD} {l l2:List Int} {p:List (List Int)} {k s t:Nat}
theorem Shut.nil (N:NetD):Shut N N []:=⟨Shp.refl N,fun _ _=>rfl,fun b=>by simp⟩
theorem NetD.setW_turn (a:Nat) (w:Int) (d b:Nat):(N.setW a w).turn d b=N.turn d b:=by
 have S:=NetD.setW_shp (N:=N) a w
 unfold NetD.turn
 rw [S.na,S.to,S.fr,S.inPl,S.outPl]
 rfl
theorem Shut.snoc (S:Shut N M l) {a:Nat} (ha:a<N.na):Shut N (M.do1 (1,(a:Int),0,0,INF)) (l ++ [(a:Int)]):=by
 have e:M.do1 (1,(a:Int),0,0,INF)=M.setW a INF:=rfl
 rw [e]
 refine ⟨S.shp.trans (NetD.setW_shp _ _),fun d b=>(NetD.setW_turn _ _ d b).trans (S.turn d b),fun b=>?_⟩
 rw [NetD.setW_w (by rw [S.shp.na]; exact ha),S.w b]
 by_cases h:b=a
 ·rw [if_pos h,if_pos (by simp [h])]
 ·rw [if_neg h]
  have:(b:Int)≠a:=by omega
  by_cases h2:(b:Int)∈l
  ·rw [if_pos h2,if_pos (by simp [h2])]
  ·rw [if_neg h2,if_neg (by simp [h2,this])]
theorem Shut.doL:∀ (l2:List Int) {M:NetD} {l:List Int},Shut N M l→(∀ a∈l2,∃ b:Nat,b<N.na∧a=b)→Shut N (M.doL (shutC l2)) (l ++ l2)
 | [],M,l,S,_=>by simpa [shutC,NetD.doL] using S
 | a :: l2,M,l,S,h=>by
  obtain ⟨b,hb,rfl⟩:=h a (by simp)
  have:=Shut.doL l2 (S.snoc hb) fun x hx=>h x (List.mem_cons_of_mem _ hx)
  rw [List.append_assoc] at this
  exact this
theorem shutC_ok (S:Shp N M) (h:∀ a∈l,∃ b:Nat,b<N.na∧a=b):∀ x∈shutC l,ChgOk M x:=fun x hx=>by
 obtain ⟨a,ha,rfl⟩:=List.mem_map.1 hx
 obtain ⟨b,hb,rfl⟩:=h a ha
 exact ⟨(by decide:weightB INF=true),.inl ⟨rfl,Int.natCast_nonneg _,by rw [S.na]; show (b:Int)<_; omega,rfl,rfl⟩⟩
def NetD.crs (N:NetD) (p:List (List Int)) (k:Nat) (a:Nat):Bool:=cel p k (N.fr a) != cel p k (N.to a)
def NetD.crsL (N:NetD) (p:List (List Int)) (k n:Nat):List Int:=((List.range n).filter (N.crs p k)).map fun a:Nat=>(a:Int)
theorem NetD.crsL_succ (n:Nat):N.crsL p k (n+1)=if N.crs p k n=true then N.crsL p k n ++ [(n:Int)] else N.crsL p k n:=by
 unfold NetD.crsL
 rw [List.range_succ,List.filter_append]
 by_cases h:N.crs p k n=true <;> simp [h]
theorem NetD.mem_crsL {n a:Nat}:(a:Int)∈N.crsL p k n↔a<n∧N.crs p k a=true:=by
 unfold NetD.crsL
 rw [List.mem_map]
 constructor
 ·rintro ⟨b,hb,e⟩
  obtain rfl:b=a:=by omega
  simpa using hb
 ·rintro ⟨h1,h2⟩
  exact ⟨a,by simp [h1,h2],rfl⟩
theorem NetD.crsL_lt {n:Nat}:∀ a∈N.crsL p k n,∃ b:Nat,b<n∧a=b:=fun a ha=>by
 obtain ⟨b,hb,rfl⟩:=List.mem_map.1 ha
 exact ⟨b,by have:=List.mem_filter.1 hb; simpa using this.1,rfl⟩
theorem NetD.crsL_len (n:Nat):(N.crsL p k n).length≤n:=by
 unfold NetD.crsL
 rw [List.length_map]
 exact Nat.le_trans (List.length_filter_le _ _) (by simp)
theorem NetD.crsL_one (n:Nat):(N.crsL p k n).Nodup:=by
 unfold NetD.crsL
 refine List.Pairwise.map _ (fun a b (h:a≠b)=>by omega) ?_
 exact List.Pairwise.filter _ List.nodup_range
theorem Shut.e (S:Shut N M (N.crsL p k N.na)):M.e=shutE N.e N.fr N.to (cel p k):=by
 funext a b
 have htr:M.tr a b=N.tr a b:=by unfold NetD.tr; rw [S.turn]
 unfold shutE
 cases h:N.tr a b with
 | none=>
  have h1:N.e a b=none:=by unfold NetD.e eT; rw [h]
  have h2:M.e a b=none:=by unfold NetD.e eT; rw [htr,h]
  rw [h1,h2]; simp
 | some x=>
  obtain ⟨hb1,hb2,-⟩:=NetD.turn_in (NetD.tr_some.1 h).1
  have hm:=NetD.mem_crsL (N:=N) (p:=p) (k:=k) (n:=N.na) (a:=b)
  have hw:=S.w b
  by_cases hc:cel p k (N.fr b)=cel p k (N.to b)
  ·rw [if_neg (fun g=>by have:=(hm.1 g).2; simp [NetD.crs,hc] at this)] at hw
   rw [if_pos hc]
   unfold NetD.e eT NetD.ok NetD.wn
   rw [htr,h,hw]
  ·rw [if_pos (hm.2 ⟨hb2,by simpa [NetD.crs] using hc⟩)] at hw
   rw [if_neg hc]
   unfold NetD.e eT NetD.ok
   rw [htr,h,hw]
   simp
theorem shut_want (hok:N.Ok) (S:Shut N M (N.crsL p k N.na)) (hs:s<N.na) (ht:t<N.na) {v d:Nat}
  (hv0:v≤INFN) (hv1:∀ a c y,Within N.e (fun x=>cel p k (N.fr x)=cel p k (N.to s)∧cel p k (N.to x)=cel p k (N.to s)) s a c→N.tr a t=some y→v≤c+y)
  (hv2:v<INFN→∃ a c y,Within N.e (fun x=>cel p k (N.fr x)=cel p k (N.to s)∧cel p k (N.to x)=cel p k (N.to s)) s a c∧N.tr a t=some y∧v=c+y)
  (hd1:M.w s<INF→Least INFN M.e s t d) (hd2:INF≤M.w s→d=INFN) :
  (d:Int)=if N.w s=INF∨N.crs p k s=true∨N.crs p k t=true then INF else if s=t then 0 else min ((v:Int)+N.w t) INF:=by
 have hI:((INFN:Nat):Int)=INF:=rfl
 have ws:=S.w s
 have hms:=NetD.mem_crsL (N:=N) (p:=p) (k:=k) (n:=N.na) (a:=s)
 have hmt:=NetD.mem_crsL (N:=N) (p:=p) (k:=k) (n:=N.na) (a:=t)
 have bs:=NetD.w_bd hok s
 have bt:=NetD.w_bd hok t
 by_cases h1:N.w s=INF∨N.crs p k s=true
 ·rw [if_pos (h1.elim .inl fun h=>.inr (.inl h)),hd2 ?_,hI]
  rw [ws]
  split
  ·exact Int.le_refl _
  ·rename_i hn
   rcases h1 with h | h
   ·rw [h]; exact Int.le_refl _
   ·exact absurd (hms.2 ⟨hs,h⟩) hn
 have h1a:N.w s≠INF:=fun e=>h1 (.inl e)
 have h1b:¬ N.crs p k s=true:=fun e=>h1 (.inr e)
 rw [if_neg (fun g=>h1b (hms.1 g).2)] at ws
 have L:=hd1 (by rw [ws]; unfold INF at *; omega)
 have no:(∀ a,M.e a t=none)→s≠t→d=INFN:=fun hn hst=>by
  rcases Nat.lt_or_ge d INFN with hlt | hge
  ·have:=L.way hlt
   cases this with
   | here=>exact absurd rfl hst
   | on _ he=>rw [hn] at he; cases he
  ·have:=L.le; omega
 by_cases h2:N.crs p k t=true
 ·have hst:s≠t:=fun e=>h1b (by rw [e]; exact h2)
  rw [if_pos (.inr (.inr h2)),no (fun a=>?_) hst,hI]
  rw [S.e]
  unfold shutE
  rw [if_neg (by simpa [NetD.crs] using h2)]
 rw [if_neg (fun g=>g.elim h1a fun g=>g.elim h1b h2)]
 by_cases hst:s=t
 ·rw [if_pos hst]
  subst hst
  have:=L.least 0 .here
  omega
 rw [if_neg hst]
 by_cases hwt:N.w t=INF
 ·rw [no (fun a=>?_) hst,hI,hwt]
  ·omega
  ·rw [S.e]
   unfold shutE
   split
   ·cases he:N.e a t with
    | none=>rfl
    | some x=>have:=(NetD.e_some.1 he).2.1; omega
   ·rfl
 ·have hlt:N.w t<INF:=by unfold INF at *; omega
  have hct:cel p k (N.fr t)=cel p k (N.to t):=by simpa [NetD.crs] using h2
  have L2:Least INFN M.e s t (min INFN (v+N.wn t)):=by
   rw [S.e]
   exact shut_law (tr:=N.tr) (ok:=N.ok) (w:=N.wn) (v:=v) (fun a b x h=>(NetD.turn_in (NetD.tr_some.1 h).1).2.2.symm) hst (by simpa [NetD.ok] using hlt) hct hv1 hv2 rfl
  rw [L.one L2]
  unfold NetD.wn INFN INF at *
  omega
end
end Go.Proofs.YteffnclboadalaaGreatDoor
