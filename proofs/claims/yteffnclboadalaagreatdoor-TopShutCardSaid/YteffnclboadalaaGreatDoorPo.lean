/-
A part of the proof of TopShut: lemmas that the last text joins. No condition.
-/
import Derived.Test.YteffnclboadalaaGreatDoorPn
import Derived.Test.YteffnclboadalaaGreatDoorW7
namespace Go.Proofs.YteffnclboadalaaGreatDoor
set_option linter.unusedVariables false
set_option linter.unusedSimpArgs false
set_option linter.unusedSectionVars false
set_option linter.unnecessarySimpa false
section
open Go Go.RowKit
namespace Eva
section
variable {h h' h2 h3:AH} {F Fa Ft:Nat→Prop} {Q:Value→AH→Prop} {A:Option Addr} {n K g:Nat} {N M M':NetD} {xs:List Chg}
theorem GrTo.refl (X:GrX h Fa Ft F g N):GrTo h h Fa Ft F g N:=⟨⟨Fa,Ft,F,X,fun z hz=>hz.elim .inl fun h=>.inr (.inl h),fun z hz=>hz⟩,Mt.refl _ _⟩
theorem GrTo.nw (T:GrTo h h2 Fa Ft F g M) (a:Nw h2 h3):GrTo h h3 Fa Ft F g M:=by
 obtain ⟨⟨Fa',Ft',F',X,c1,c2⟩,m⟩:=T
 exact ⟨⟨Fa',Ft',F',X.nw a,c1,c2⟩,m.nw a⟩
theorem GrTo.step (T:GrTo h h2 Fa Ft F g M) {P:Prop} (hK:(∀ Fa' Ft' F',GrX h2 Fa' Ft' F' g M→(∀ h3 M',GrTo h2 h3 Fa' Ft' F' g M'→GrTo h h3 Fa Ft F g M')→P)):P:=by
 obtain ⟨⟨Fa',Ft',F',X,c1,c2⟩,m⟩:=T
 refine hK Fa' Ft' F' X fun h3 M' T2=>?_
 obtain ⟨⟨Fa'',Ft'',F'',X2,d1,d2⟩,m2⟩:=T2
 have hn:=m.next
 refine ⟨⟨Fa'',Ft'',F'',X2,fun z hz=>?_,fun z hz=>c2 z (d2 z hz)⟩,m.trans m2 fun z hz hl=>?_⟩
 ·rcases d1 z hz with h | h | h
  ·exact c1 z (.inl h)
  ·exact c1 z (.inr h)
  ·exact .inr (.inr (by omega))
 ·rcases c1 z hz with h | h | h
  ·exact .inl h
  ·exact .inr h
  ·omega
theorem aApply (X:GrX h Fa Ft F g N) {Fl:Nat→Prop} (hs:Sz cChg Fl h A n K xs) (hFl:∀ z,Fl z→¬ Fa z∧¬ Ft z) (B:BatchOk N xs) (hK:∀ h',GrTo h h' Fa Ft F g (N.doL xs)→Q .nilIface h') :
  WC Tryz.prog 45 [.pointer (some ⟨g,0,none⟩),.slice A n K] h Q:=by
 have hl:=hs.len
 have hn:=B.len
 refine w_batch_Apply (aBCheck X.gr hs (fun _ h1 k1=>⟨none,rfl,fun _=>?_,fun t u h=>by cases h⟩) fun hno=>absurd B hno)
 refine ⟨fun m x h2=>∃ i:Nat,x=i∧i≤n∧m=n - i∧GrTo h h2 Fa Ft F g (N.doL (xs.take i)),n,⟨0,rfl,Nat.zero_le _,rfl,(GrTo.refl X).nw k1⟩,?_⟩
 rintro m x h2 ⟨i,rfl,hi,rfl,T⟩
 refine ⟨fun hlt=>?_,fun hge=>?_⟩
 ·obtain ⟨b',o',x,hA',-,hlb,hx,hc,hn5⟩:=(hs.off T.mt fun z hz hs=>hs.elim (hFl z hz).1 (hFl z hz).2).chg (k:=i) (by omega)
  refine ⟨i,rfl,b',o',hA',by omega,_,_,_,_,_,hn5,fun h3 e3=>?_⟩
  obtain ⟨h4,s4,k4,g4,z4⟩:=box_st (vs:=chgL x) e3 rfl (flat5 x)
  have S:=NetD.doL_shp (xs.take i) (N:=N)
  have hxo:=(B.ok x (List.mem_of_getElem? hx)).shp S
  have htk:xs.take (i+1)=xs.take i ++ [x]:=by rw [List.take_add_one,hx]; rfl
  have fin:∀ h5,GrTo h h5 Fa Ft F g ((N.doL (xs.take i)).do1 x)→WR ((i:Int)+1) fun x10=>RE (n - i) fun m'=>∃ i:Nat,x10=i∧i≤n∧m' = n - i∧GrTo h h5 Fa Ft F g (N.doL (xs.take i)):=fun h5 T5=>
   ⟨_,wrS (by omega),n - (i+1),by omega,i+1,rfl,by omega,rfl,by rw [htk,NetD.doL_snoc]; exact T5⟩
  obtain ⟨kd,at_,ci,co,w⟩:=x
  refine ⟨h4,s4,kd,ldC_of g4 rfl,fun c1=>⟨at_,ldC_of g4 rfl,w,ldC_of g4 rfl,?_⟩,fun c1=>⟨fun c2=>⟨at_,ldC_of g4 rfl,ci,ldC_of g4 rfl,co,ldC_of g4 rfl,w,ldC_of g4 rfl,?_⟩,fun c2=>?_⟩⟩
  ·subst c1
   obtain ⟨hw,⟨-,a1,a2,-,-⟩ | ⟨h1,-⟩⟩:=hxo
   ·obtain ⟨a,rfl⟩:=Int.eq_ofNat_of_zero_le a1
    refine (T.nw k4).step fun Fa' Ft' F' X4 st=>aSet X4 (a:=a) (by exact Int.ofNat_lt.1 a2) hw fun h5 T5=>⟨none,rfl,fun _=>fin h5 (st h5 _ ?_),fun t u h=>by cases h⟩
    exact T5
   ·simp at h1
  ·subst c2
   obtain ⟨hw,⟨h1,-⟩ | ⟨-,⟨a1,a2⟩,⟨a3,a4⟩,a5,a6⟩⟩:=hxo
   ·simp at h1
   ·simp only at a1 a2 a3 a4 a5 a6
    obtain ⟨a,rfl⟩:=Int.eq_ofNat_of_zero_le a1
    obtain ⟨b,rfl⟩:=Int.eq_ofNat_of_zero_le a3
    obtain ⟨c,rfl⟩:=Int.eq_ofNat_of_zero_le a5
    refine (T.nw k4).step fun Fa' Ft' F' X4 st=>aBend X4 (t:=a) (i:=b) (o:=c) (by exact Int.ofNat_lt.1 a2) (by exact a4) (by exact a6) hw fun h5 T5=>⟨none,rfl,fun _=>fin h5 (st h5 _ ?_),fun t u h=>by cases h⟩
    exact T5
  ·exfalso
   rcases hxo.is with ⟨h1,-⟩ | ⟨h1,-⟩
   ·exact c1 h1
   ·exact c2 h1
 ·obtain rfl:i=n:=by omega
  have:xs.take i=xs:=List.take_of_length_le (by omega)
  rw [this] at T
  exact hK h2 T
end
end Eva
end
section
open Go Go.RowKit
theorem row_cel {nv:Nat} {p:List (List Int)} (hp:PartOk nv p) {k v:Nat} {row:List Int} {x:Int} (hr:p[k]? = some row) (hx:row[v]? = some x):x=(cel p (k+1) v:Int):=by
 have:=(hp.inr _ (List.mem_of_getElem? hr) x (List.mem_of_getElem? hx)).1
 unfold cel
 rw [Nat.add_sub_cancel,hr,Option.getD_some,hx,Option.getD_some]
 omega
namespace Eva
def mkTop (np:Nat) (B:Nat→Nat) (R:Nat→List Bool):List Value:=(List.range np).map fun i=>.slice (some ⟨B i,0,none⟩) (R i).length (cx (R i).length)
structure MkA (base:Nat) (h:AH) (T np:Nat) (B:Nat→Nat) (R:Nat→List Bool):Prop where
 top:Bk h T (mkTop np B R) 39
 row:∀ i,i<np→Bk h (B i) ((R i).map Value.bool) 4
 one:∀ i j,i<np→j<np→B i=B j→i=j
 apart:∀ i,i<np→B i≠T
 lo:base≤T∧∀ i,i<np→base≤B i
 lt:T<h.next∧∀ i,i<np→B i<h.next
section
variable {base:Nat} {h h':AH} {F:Nat→Prop} {Q:Value→AH→Prop} {A:Option Addr} {n K T np:Nat} {B:Nat→Nat} {R:Nat→List Bool} {p:List (List Int)}
theorem MkA.keep (M:MkA base h T np B R) (hk:∀ z,base≤z→z<h.next→h'.get z=h.get z) (hn:h.next≤h'.next):MkA base h' T np B R:=
 ⟨(hk T M.lo.1 M.lt.1).trans M.top,fun i hi=>(hk _ (M.lo.2 i hi) (M.lt.2 i hi)).trans (M.row i hi),M.one,M.apart,M.lo,by have:=M.lt.1; omega,fun i hi=>by have:=M.lt.2 i hi; omega⟩
theorem MkA.nw (M:MkA base h T np B R) (a:Nw h h'):MkA base h' T np B R:=M.keep (fun z _ hz=>a.get z hz) a.next
theorem MkA.off (M:MkA base h T np B R) {S:Nat→Prop} (m:Mt S h h') (hS:∀ z,S z→z=T∨(∃ i,i<np∧z=B i)→False):MkA base h' T np B R:=
 ⟨(m.get T M.lt.1 fun hs=>hS T hs (.inl rfl)).trans M.top,fun i hi=>(m.get _ (M.lt.2 i hi) fun hs=>hS _ hs (.inr ⟨i,hi,rfl⟩)).trans (M.row i hi),M.one,M.apart,M.lo,by have:=M.lt.1; have:=m.next; omega,fun i hi=>by have:=M.lt.2 i hi; have:=m.next; omega⟩
theorem MkA.at_ (M:MkA base h T np B R) {i:Nat} (hi:i<np):ldC h T (0+i)=some (.slice (some ⟨B i,0,none⟩) (R i).length (cx (R i).length)):=by
 refine ldC_of M.top ?_
 rw [Nat.zero_add]
 simp [mkTop,hi]
theorem bools_set {l:List Bool} {k:Nat} {b:Bool}:(l.map Value.bool).set k (.bool b)=(l.set k b).map Value.bool:=by rw [List.map_set]
theorem MkA.put (M:MkA base h T np B R) {i c:Nat} (hi:i<np) (hc:c<(R i).length):∃ h2,stC h (B i) (0+c) [.bool true]=some h2∧MkA base h2 T np B (upd R i ((R i).set c true))∧Mt (fun z=>∃ i,i<np∧z=B i) h h2:=by
 obtain ⟨h2,s2,B2,z2,o2⟩:=st_one (v:=.bool true) (o:=0+c) (M.row i hi) (by rw [List.length_map]; omega) rfl
 rw [Nat.zero_add,bools_set] at B2
 have hl:∀ j,(upd R i ((R i).set c true) j).length=(R j).length:=fun j=>by
  unfold upd
  split
  ·rename_i e; rw [List.length_set,e]
  ·rfl
 refine ⟨h2,s2,⟨?_,fun j hj=>?_,M.one,M.apart,M.lo,by have:=M.lt.1; omega,fun j hj=>by have:=M.lt.2 j hj; omega⟩,by omega,fun z _ hn=>o2 z fun e=>hn ⟨i,hi,e⟩⟩
 ·have:mkTop np B (upd R i ((R i).set c true))=mkTop np B R:=by
   unfold mkTop
   congr 1
   funext j
   rw [hl]
  rw [this]
  exact (o2 T fun e=>M.apart i hi e.symm).trans M.top
 ·unfold upd
  by_cases e:j=i
  ·subst e
   rw [if_pos rfl]
   exact B2
  ·rw [if_neg e]
   exact (o2 _ fun h=>e (M.one j i hj hi h)).trans (M.row j hj)
def marked (p:List (List Int)) (a b i:Nat) (r:List Bool):List Bool:=if cel p (i+1) a=cel p (i+1) b then r.set (cel p (i+1) a) true else r
theorem marked_len (p:List (List Int)) (a b i:Nat) (r:List Bool):(marked p a b i r).length=r.length:=by unfold marked; split <;> simp
theorem aMark (M:MkA base h T np B R) {nv:Nat} (hp:PartOk nv p) (hs:Sa cRows F h A np K p) (hF:∀ z,F z→∀ i,i<np→z≠B i) (hR:∀ i,i<np→(R i).length=most p (i+1)) (hnp:np≤1000) {a b:Nat} (ha:a<nv) (hb:b<nv)
  (hK:∀ h',MkA base h' T np B (fun i=>marked p a b i (R i))→Mt (fun z=>∃ i,i<np∧z=B i) h h'→Q (.tuple #[]) h') :
  WC Tryz.prog 89 [.slice (some ⟨T,0,none⟩) np (cx np),.slice A np K,.int .i64 a,.int .i64 b] h Q:=by
 have hl:=hs.len
 refine w_batch_mark ⟨fun m x h1=>∃ k:Nat,x=k∧k≤np∧m=np - k∧MkA base h1 T np B (fun i=>if i<k then marked p a b i (R i) else R i)∧Mt (fun z=>∃ i,i<np∧z=B i) h h1,np,⟨0,rfl,Nat.zero_le _,rfl,by simpa using M,Mt.refl _ _⟩,?_⟩
 rintro m x h1 ⟨k,rfl,hk,rfl,M1,m1⟩
 refine ⟨fun hlt=>?_,fun hge=>?_⟩
 ·have hk':k<np:=by omega
  obtain ⟨b1,o1,A',n',K',row,hA,-,-,hrow,l1,sr⟩:=(hs.off m1 fun z hz ⟨i,hi,e⟩=>hF z hz i hi e).row hk'
  have hrl:=hp.rows _ (List.mem_of_getElem? hrow)
  have hn':n' = nv:=by rw [← sr.len]; exact hrl
  have next:∀ h2,MkA base h2 T np B (fun i=>if i<k+1 then marked p a b i (R i) else R i)→Mt (fun z=>∃ i,i<np∧z=B i) h1 h2→WR ((k:Int)+1) fun x4=>RE (np - k) fun m'=>∃ k:Nat,x4=k∧k≤np∧m' = np - k∧MkA base h2 T np B (fun i=>if i<k then marked p a b i (R i) else R i)∧Mt (fun z=>∃ i,i<np∧z=B i) h h2:=fun h2 M2 m2=>
   ⟨_,wrS (by omega),np - (k+1),by omega,k+1,rfl,by omega,rfl,M2,m1.then m2⟩
  have eqR:∀ r,(r=marked p a b k (R k))→upd (fun i=>if i<k then marked p a b i (R i) else R i) k r=fun i=>if i<k+1 then marked p a b i (R i) else R i:=fun r hr=>by
   funext i
   unfold upd
   by_cases e:i=k
   ·subst e; simp [hr]
   ·rw [if_neg e]
    show (if i<k then marked p a b i (R i) else R i)=_
    by_cases h:i<k
    ·rw [if_pos h,if_pos (by omega)]
    ·rw [if_neg h,if_neg (by omega)]
  obtain ⟨ba,oa,xa,hAa,-,-,hxa,la⟩:=sr.int (k:=a) (by omega)
  obtain ⟨bb,ob,xb,hAb,-,-,hxb,lb⟩:=sr.int (k:=b) (by omega)
  have hxa':=row_cel hp hrow hxa
  have hxb':=row_cel hp hrow hxb
  have e1:some (⟨ba,oa,none⟩:Addr)=some ⟨bb,ob,none⟩:=hAa.symm.trans hAb
  obtain ⟨rfl,rfl⟩:ba=bb∧oa=ob:=by simpa using e1
  have hcm:=cel_most hp (k:=k+1) (by omega) (by omega) ha
  have hk1:(fun i=>if i<k then marked p a b i (R i) else R i) k=R k:=by simp
  have at1:=M1.at_ hk'
  simp only [Nat.lt_irrefl,if_false] at at1
  refine ⟨k,rfl,b1,o1,hA,hk',A',n',K',l1,fun h=>absurd h (by omega),fun _=>⟨fun h=>absurd h (by omega),fun _=>⟨fun h=>absurd h (by omega),fun _=>⟨fun h=>absurd h (by omega),fun _=>⟨fun h=>absurd h (by omega),fun _=>⟨a,rfl,ba,oa,hAa,by omega,xa,la,b,rfl,by omega,xb,lb,fun heq=>⟨fun h0=>⟨T,0,rfl,hk',_,_,_,at1,fun hlt2=>⟨hk',_,_,_,at1,cel p (k+1) a,hxa',B k,0,rfl,by rw [hR k hk']; exact hcm,?_⟩,fun h=>absurd hcm (by rw [hR k hk'] at h; omega)⟩,fun h=>absurd h (by omega)⟩,fun hne=>next h1 ?_ (Mt.refl _ _)⟩⟩⟩⟩⟩⟩
  ·obtain ⟨h2,s2,M2,m2⟩:=M1.put hk' (c:=cel p (k+1) a) (by simp only [Nat.lt_irrefl,if_false]; rw [hR k hk']; exact hcm)
   rw [eqR _ (by simp only [Nat.lt_irrefl,if_false]; unfold marked; rw [if_pos (by omega)])] at M2
   exact ⟨h2,s2,next h2 M2 m2⟩
  ·have:(fun i=>if i<k+1 then marked p a b i (R i) else R i)=fun i=>if i<k then marked p a b i (R i) else R i:=by
    rw [← eqR (R k) (by unfold marked; rw [if_neg (by omega)])]
    funext i
    unfold upd
    by_cases e:i=k
    ·subst e; simp
    ·rw [if_neg e]
   rw [this]
   exact M1
 ·obtain rfl:k=np:=by omega
  refine hK h1 (M1.keep (fun _ _ _=>rfl) (Nat.le_refl _) |> fun M=>?_) m1
  refine ⟨?_,fun i hi=>?_,M.one,M.apart,M.lo,M.lt⟩
  ·have:=M.top
   have e:mkTop k B (fun i=>if i<k then marked p a b i (R i) else R i)=mkTop k B (fun i=>marked p a b i (R i)):=by
    unfold mkTop
    apply List.map_congr_left
    intro i hi
    have:i<k:=by simpa using hi
    simp [this]
   rwa [e] at this
  ·have:=M.row i hi
   simp only [if_pos hi] at this
   exact this
end
end Eva
end
section
open Go Go.RowKit
namespace Eva
theorem marked_get {p:List (List Int)} {a b j c:Nat} {r:List Bool}:(marked p a b j r)[c]? = some true↔r[c]? = some true∨(cel p (j+1) a=cel p (j+1) b∧c=cel p (j+1) a∧c<r.length):=by
 unfold marked
 split
 ·rename_i e
  rw [List.getElem?_set]
  by_cases h:cel p (j+1) a=c
  ·rw [if_pos h]
   by_cases hl:cel p (j+1) a<r.length
   ·rw [if_pos hl]
    exact ⟨fun _=>.inr ⟨e,h.symm,by omega⟩,fun _=>rfl⟩
   ·rw [if_neg hl]
    constructor
    ·intro h; cases h
    ·rintro (h1 | ⟨_,_,h3⟩)
     ·have:=(List.getElem?_eq_some_iff.1 h1).1; omega
     ·omega
  ·rw [if_neg h]
   exact ⟨.inl,fun hh=>hh.elim id fun ⟨_,h2,_⟩=>absurd h2.symm h⟩
 ·rename_i e
  exact ⟨.inl,fun hh=>hh.elim id fun ⟨h1,_⟩=>absurd h1 e⟩
section
variable {h h':AH} {F Fa Fo:Nat→Prop} {Q:Value→AH→Prop} {A:Option Addr} {n K g o:Nat} {N:NetD} {p:List (List Int)} {xs:List Chg}
def MkOk (N:NetD) (p:List (List Int)) (xs:List Chg) (i:Nat) (R:Nat→List Bool):Prop:=
 (∀ j,j<p.length→(R j).length=most p (j+1))∧∀ j c,j<p.length→((R j)[c]? = some true↔c<most p (j+1)∧∃ q x,q<i∧xs[q]? = some x∧Tch N p (j+1) c x)
theorem MkOk.next {i:Nat} {R R':Nat→List Bool} {x:Chg} (M:MkOk N p xs i R) (hx:xs[i]? = some x) (hl:∀ j,j<p.length→(R' j).length=(R j).length) (h:∀ j c,j<p.length→c<most p (j+1)→((R' j)[c]? = some true↔(R j)[c]? = some true∨Tch N p (j+1) c x)):MkOk N p xs (i+1) R':=by
 refine ⟨fun j hj=>(hl j hj).trans (M.1 j hj),fun j c hj=>?_⟩
 have hlen:(R' j).length=most p (j+1):=(hl j hj).trans (M.1 j hj)
 constructor
 ·intro h1
  have hc:c<most p (j+1):=by rw [← hlen]; exact (List.getElem?_eq_some_iff.1 h1).1
  refine ⟨hc,?_⟩
  rcases (h j c hj hc).1 h1 with h2 | h2
  ·obtain ⟨_,q,y,h3,h4,h5⟩:=(M.2 j c hj).1 h2
   exact ⟨q,y,by omega,h4,h5⟩
  ·exact ⟨i,x,by omega,hx,h2⟩
 ·rintro ⟨hc,q,y,h3,h4,h5⟩
  refine (h j c hj hc).2 ?_
  by_cases e:q=i
  ·subst e
   rw [hx] at h4
   obtain rfl:=Option.some.inj h4
   exact .inr h5
  ·exact .inl ((M.2 j c hj).2 ⟨hc,q,y,by omega,h4,h5⟩)
theorem aTouched (G:GrA h Fa F g N) (O:OvA h Fo o N p) {Fl:Nat→Prop} (hs:Sz cChg Fl h A n K xs) (hK1:BatchOk N xs→∀ T B R h',MkA h.next h' T p.length B R→MkOk N p xs n R→Nw h h'→Q (.tuple #[.slice (some ⟨T,0,none⟩) p.length (cx p.length),.nilIface]) h')
  (hK2:¬ BatchOk N xs→∀ t u h',Nw h h'→Q (.tuple #[.slice none 0 0,.iface t u]) h') :
  WC Tryz.prog 44 [.pointer (some ⟨g,0,none⟩),.pointer (some ⟨o,0,none⟩),.slice A n K] h Q:=by
 have hl:=hs.len
 have hp:=O.hp
 have hnp:=hp.few
 have hok:=O.ok
 have hnfew:=O.nfew
 have hmost:∀ k,1≤k→k≤p.length→most p k≤N.nv:=fun k h1 h2=>by
  obtain ⟨row,hr⟩:∃ row,p[k - 1]? = some row:=⟨_,List.getElem?_eq_getElem (by omega)⟩
  have h2:=most_row hr
  have h3:=mostOf_le (row:=row) (n:=(N.nv:Int)) (by omega) (fun x hx=>(hp.inr _ (List.mem_of_getElem? hr) x hx).2)
  omega
 refine w_batch_Touched (aBCheck G hs (fun B h1 k1=>⟨none,rfl,fun _=>?_,fun t u h=>by cases h⟩) fun hno t u h1 k1=>⟨some (t,u),rfl,fun h=>(by cases h),fun t' u' e=>by cases e; exact hK2 hno t u h1 k1⟩)
 have hn:=B.len
 refine oLevels (O.nw k1) ⟨_,rfl,p.length,rfl,by omega,fun h3 e3=>?_⟩
 obtain ⟨k3,g3,z3⟩:=news e3
 rw [rep_one] at g3
 have k13:=k1.trans k3
 obtain ⟨T,hT⟩:∃ T,h1.next=T:=⟨_,rfl⟩
 have z1:=k1.next
 rw [hT] at g3 z3
 rw [hT]
 refine ⟨fun m x h4=>∃ (i:Nat) (B:Nat→Nat),x=i∧i≤p.length∧m=p.length - i∧Bk h4 T ((List.range p.length).map fun j=>if j<i then .slice (some ⟨B j,0,none⟩) (most p (j+1)) (cx (most p (j+1))) else .slice none 0 0) 39∧(∀ j,j<i→Bk h4 (B j) (List.replicate (most p (j+1)) (.bool false)) 4∧T<B j∧B j<h4.next)∧(∀ j j',j<i→j' < i→B j=B j'→j=j')∧Nw h h4∧T<h4.next,p.length,
  ⟨0,fun _=>0,rfl,Nat.zero_le _,rfl,?_,fun j hj=>absurd hj (by omega),fun j j' hj=>absurd hj (by omega),k13,by omega⟩,?_⟩
 ·have e:(List.range p.length).map (fun j=>if j<0 then Value.slice (some ⟨(fun _=>0:Nat→Nat) j,0,none⟩) (most p (j+1)) (cx (most p (j+1))) else .slice none 0 0)=List.replicate p.length (.slice none 0 0):=by
   simp [List.map_const']
  rw [e]
  exact g3
 rintro m x h4 ⟨i,Bf,rfl,hi,rfl,b4,r4,d4,k4,lt4⟩
 refine ⟨fun hlt=>?_,fun hge=>?_⟩
 ·have hi':i<p.length:=by omega
  have hm:=hmost (i+1) (by omega) (by omega)
  refine ⟨_,wrS (by omega),oCells (O.nw k4) (k:=i+1) (by omega) (by omega) ⟨_,rfl,most p (i+1),rfl,by omega,fun h6 e6=>?_⟩⟩
  obtain ⟨k6,g6,z6⟩:=news e6
  rw [rep_one] at g6
  obtain ⟨h7,s7,B7,z7,o7⟩:=st_one (v:=.slice (some ⟨h4.next,0,none⟩) (most p (i+1)) (cx (most p (i+1)))) (o:=0+i) (k6.bk lt4 b4) (by simp; omega) rfl
  refine ⟨i,rfl,hi',h7,s7,_,wrS (by omega),p.length - (i+1),by omega,i+1,upd Bf i h4.next,rfl,by omega,rfl,?_,fun j hj=>?_,fun j j' hj hj' he=>?_,⟨by have:=k4.next; omega,fun z hz=>(o7 z (by omega)).trans ((k6.get z (by have:=k4.next; omega)).trans (k4.get z hz))⟩,by omega⟩
  ·rw [Nat.zero_add] at B7
   have e:((List.range p.length).map fun j=>if j<i then Value.slice (some ⟨Bf j,0,none⟩) (most p (j+1)) (cx (most p (j+1))) else .slice none 0 0).set i (.slice (some ⟨h4.next,0,none⟩) (most p (i+1)) (cx (most p (i+1))))=(List.range p.length).map fun j=>if j<i+1 then Value.slice (some ⟨upd Bf i h4.next j,0,none⟩) (most p (j+1)) (cx (most p (j+1))) else .slice none 0 0:=by
    apply List.ext_getElem?
    intro j
    rw [List.getElem?_set]
    by_cases e:i=j
    ·subst e
     simp [hi',upd]
    ·rw [if_neg e]
     by_cases hj:j<p.length
     ·have e':¬ j=i:=fun h=>e h.symm
      by_cases h:j<i
      ·simp [hj,h,upd,e',Nat.lt_succ_of_lt h]
      ·have h'':¬ j<i+1:=by omega
       simp [hj,h,h'']
     ·simp [hj]
   rw [← e]
   exact B7
  ·unfold upd
   by_cases e:j=i
   ·subst e
    rw [if_pos rfl]
    exact ⟨(o7 _ (by omega)).trans g6,by omega,by omega⟩
   ·rw [if_neg e]
    obtain ⟨r1,r2,r3⟩:=r4 j (by omega)
    exact ⟨(o7 _ (by omega)).trans ((k6.get _ r3).trans r1),r2,by omega⟩
  ·unfold upd at he
   by_cases e:j=i
   ·by_cases e':j' = i
    ·omega
    ·rw [if_pos e,if_neg e'] at he
     have:=(r4 j' (by omega)).2.2
     omega
   ·by_cases e':j' = i
    ·rw [if_neg e,if_pos e'] at he
     have:=(r4 j (by omega)).2.2
     omega
    ·rw [if_neg e,if_neg e'] at he
     exact d4 j j' (by omega) (by omega) he
 ·obtain rfl:i=p.length:=by omega
  have M4:MkA h.next h4 T p.length Bf (fun j=>List.replicate (most p (j+1)) false):=by
   refine ⟨?_,fun j hj=>by rw [List.map_replicate]; exact (r4 j hj).1,d4,fun j hj=>by have:=(r4 j hj).2.1; omega,⟨by omega,fun j hj=>by have:=(r4 j hj).2.1; omega⟩,lt4,fun j hj=>(r4 j hj).2.2⟩
   have e:mkTop p.length Bf (fun j=>List.replicate (most p (j+1)) false)=(List.range p.length).map fun j=>if j<p.length then .slice (some ⟨Bf j,0,none⟩) (most p (j+1)) (cx (most p (j+1))) else .slice none 0 0:=by
    unfold mkTop
    apply List.map_congr_left
    intro j hj
    have:j<p.length:=by simpa using hj
    simp [this]
   rw [e]; exact b4
  have ok0:MkOk N p xs 0 (fun j=>List.replicate (most p (j+1)) false):=⟨fun j _=>by simp,fun j c hj=>⟨fun h=>(by rw [List.getElem?_replicate] at h; split at h <;> cases h),fun ⟨_,q,x,h,_⟩=>absurd h (by omega)⟩⟩
  have okn:(n:Int)=0→MkOk N p xs n (fun j=>List.replicate (most p (j+1)) false):=fun h0=>by
   obtain rfl:n=0:=by omega
   exact ok0
  refine ⟨fun h0=>hK1 B T Bf _ h4 M4 (okn h0) k4,fun hn0=>oPart (O.nw k4) fun A2 K2 h8 s8 k8=>⟨_,_,_,rfl,aNet (G.nw (k4.trans k8)) fun A3 n3 K3 A4 n4 K4 A5 n5 K5 h9 t1 t2 t3 k9=>⟨_,_,_,_,_,_,_,_,_,rfl,fun h10 e10=>?_⟩⟩⟩
  obtain ⟨h11,s11,k11,g11,z11⟩:=box_st (vs:=[.slice A3 n3 K3,.slice A4 n4 K4,.slice A5 n5 K5]) e10 rfl (flat3 rfl rfl rfl)
  have z8:=k8.next
  have z9:=k9.next
  have k411:=(k8.trans k9).trans k11
  have k011:=k4.trans k411
  have SB:∀ z,(∃ j,j<p.length∧z=Bf j)→T<z∧z<h4.next:=fun z ⟨j,hj,e⟩=>by subst e; exact (r4 j hj).2
  refine ⟨h11,s11,fun m x h12=>∃ (i:Nat) (R:Nat→List Bool),x=i∧i≤n∧m=n - i∧MkA h.next h12 T p.length Bf R∧MkOk N p xs i R∧Mt (fun z=>∃ j,j<p.length∧z=Bf j) h11 h12,n,⟨0,_,rfl,Nat.zero_le _,rfl,M4.nw k411,ok0,Mt.refl _ _⟩,?_⟩
  rintro m x h12 ⟨i,R,rfl,hi2,rfl,M12,ok12,m12⟩
  have k12:Nw h h12:=m12.is_nw k011 fun z hz=>by have:=(SB z hz).1; omega
  have z12:=m12.next
  refine ⟨fun hlt=>?_,fun hge=>?_⟩
  ·have hi':i<n:=by omega
   obtain ⟨b',o',x,hA',-,hlb,hx,hc,hn5⟩:=(hs.nw k12).chg (k:=i) hi'
   have hxo:=B.ok x (List.mem_of_getElem? hx)
   refine ⟨i,rfl,b',o',hA',hi',_,_,_,_,_,hn5,fun h13 e13=>?_⟩
   obtain ⟨h14,s14,k14,g14,z14⟩:=box_st (vs:=chgL x) e13 rfl (flat5 x)
   have M14:=M12.nw k14
   have G14:=G.nw (k12.trans k14)
   have g11':∀ {h'},Nw h12 h'→Bk h' h9.next [.slice A3 n3 K3,.slice A4 n4 K4,.slice A5 n5 K5] 180:=fun a=>a.bk (by omega) (m12.bk (by omega) (fun hz=>by have:=(SB _ hz).2; omega) g11)
   have next:∀ h' R',MkA h.next h' T p.length Bf R'→MkOk N p xs (i+1) R'→Mt (fun z=>∃ j,j<p.length∧z=Bf j) h12 h'→WR ((i:Int)+1) fun x16=>RE (n - i) fun m'=>∃ (i:Nat) (R:Nat→List Bool),x16=i∧i≤n∧m' = n - i∧MkA h.next h' T p.length Bf R∧MkOk N p xs i R∧Mt (fun z=>∃ j,j<p.length∧z=Bf j) h11 h':=fun h' R' a1 a2 a3=>
    ⟨_,wrS (by omega),n - (i+1),by omega,i+1,R',rfl,by omega,rfl,a1,a2,m12.then a3⟩
   obtain ⟨kd,at_,ci,co,w⟩:=x
   have s8':∀ {h'},Nw h12 h'→Sa cRows (fun z=>h4.next≤z) h' A2 p.length K2 p:=fun a=>((s8.nw (k9.trans k11)).off m12 fun z hz e=>by have:=(SB z e).2; omega).nw a
   refine ⟨h14,s14,kd,ldC_of g14 rfl,fun c1=>⟨at_,ldC_of g14 rfl,w,ldC_of g14 rfl,?_⟩,fun c1=>⟨fun c2=>?_,fun c2=>?_⟩⟩
   ·subst c1
    obtain ⟨hw,⟨-,a1,a2,-,-⟩ | ⟨h1,-⟩⟩:=hxo
    case inr=>simp at h1
    simp only at a1 a2
    obtain ⟨a,rfl⟩:=Int.eq_ofNat_of_zero_le a1
    have ha:a<N.na:=Int.ofNat_lt.1 a2
    refine aWeight G14 ha ⟨_,rfl,ldC_of g14 rfl,fun heq=>next h14 R M14 (ok12.next hx (fun _ _=>rfl) fun j c _ _=>⟨.inl,fun hh=>hh.elim id fun ht=>?_⟩) (.of k14),fun hne=>⟨_,ldC_of g14 rfl,_,ldC_of g14 rfl,aFrom G14 ha ⟨_,rfl,ldC_of g14 rfl,aTo G14 ha ⟨_,rfl,?_⟩⟩⟩⟩
    ·rcases ht with ⟨_,h2,_⟩ | ⟨h1,_⟩
     ·exact absurd heq h2
     ·simp at h1
    ·refine aMark M14 hp (s8' k14) (fun z hz j hj e=>by have:=(r4 j hj).2.2; omega) ok12.1 (by omega) (NetD.fr_lt hok ha).1 (NetD.to_lt hok ha).1 fun h15 M15 m15=>⟨rfl,next h15 _ M15 (ok12.next hx (fun j _=>marked_len _ _ _ _ _) fun j c hj hc=>?_) ((Mt.of k14).then m15)⟩
     rw [marked_get,ok12.1 j hj]
     constructor
     ·rintro (h1 | ⟨h1,h2,h3⟩)
      ·exact .inl h1
      ·exact .inr (.inl ⟨rfl,hne,h2.symm,by rw [h2]; exact h1.symm⟩)
     ·rintro (h1 | ⟨-,-,h2,h3⟩ | ⟨h1,-⟩)
      ·exact .inl h1
      ·exact .inr ⟨h2.trans h3.symm,h2.symm,hc⟩
      ·simp at h1
   ·subst c2
    obtain ⟨hw,⟨h1,-⟩ | ⟨-,⟨a1,a2⟩,⟨a3,a4⟩,a5,a6⟩⟩:=hxo
    ·simp at h1
    simp only at a1 a2 a3 a4 a5 a6
    obtain ⟨a,rfl⟩:=Int.eq_ofNat_of_zero_le a1
    obtain ⟨ti,rfl⟩:=Int.eq_ofNat_of_zero_le a3
    obtain ⟨to,rfl⟩:=Int.eq_ofNat_of_zero_le a5
    have ha:a<N.ts.length:=Int.ofNat_lt.1 a2
    have t3':Sa cTab (fun z=>h8.next≤z) h14 A5 n5 K5 N.ts:=((t3.nw k11).off m12 fun z hz e=>by have:=(SB z e).2; omega).nw k14
    have hn5':=t3.len
    obtain ⟨bt,ot,ins,outs,A',n',K',zs,hA5,-,-,ht,l0,l1,l2,sz⟩:=t3'.table (k:=a) (by omega)
    have htb:N.tb a=(ins,outs,zs):=by simp [NetD.tb,ht]
    have htk:=NetD.tb_ok hok ha
    rw [Int.toNat_natCast,htb] at a4 a6
    rw [htb] at htk
    have h16:=htk.ins_
    have h17:=htk.outs_
    simp only at a4 a6 h16 h17
    refine ⟨_,_,_,ldC_of (g11' k14) rfl,_,ldC_of g14 rfl,a,rfl,bt,ot,hA5,by omega,_,_,_,_,_,ldN3' l0 l1 l2,_,ldC_of g14 rfl,_,ldC_of g14 rfl,_,ldC_of g14 rfl,aTurnAt sz htk ti to (by omega) (by omega) fun h19 k19=>⟨_,rfl,ldC_of (k19.bk (by omega) g14) rfl,fun heq=>next h19 R (M14.nw k19) (ok12.next hx (fun _ _=>rfl) fun j c _ _=>⟨.inl,fun hh=>hh.elim id fun ht=>?_⟩) (.of (k14.trans k19)),fun hne=>⟨_,_,_,ldC_of (g11' (k14.trans k19)) rfl,?_⟩⟩⟩
    ·rcases ht with ⟨h1,_⟩ | ⟨_,h2,_⟩
     ·simp at h1
     ·simp only [Int.toNat_natCast,htb] at h2
      exact absurd heq h2
    ·have k1219:=k14.trans k19
     have z19:=k1219.next
     have hv3:n3=N.nv:=t1.len.symm
     have t1':Sa cTri (fun z=>h8.next≤z) h19 A3 n3 K3 N.vs:=((t1.nw k11).off m12 fun z hz e=>by have:=(SB z e).2; omega).nw k1219
     have g14':=k19.bk (by omega) g14
     refine ⟨fun m x h20=>∃ (v:Nat) (R':Nat→List Bool),x=v∧v≤n3∧m=n3 - v∧MkA h.next h20 T p.length Bf R'∧(∀ j,j<p.length→(R' j).length=(R j).length)∧(∀ j c,j<p.length→c<most p (j+1)→((R' j)[c]? = some true↔(R j)[c]? = some true∨∃ u,u<v∧N.ty u=(a:Int)∧cel p (j+1) u=c))∧Mt (fun z=>∃ j,j<p.length∧z=Bf j) h19 h20,n3,⟨0,R,rfl,Nat.zero_le _,rfl,M14.nw k19,fun _ _=>rfl,fun j c _ _=>⟨.inl,fun hh=>hh.elim id fun ⟨u,hu,_⟩=>absurd hu (by omega)⟩,Mt.refl _ _⟩,?_⟩
     rintro m x h20 ⟨v,R',rfl,hv,rfl,M20,l20,q20,m20⟩
     have z4a:h4.next≤h12.next:=by omega
     have z1419:=k19.next
     have g20:Bk h20 h12.next (chgL (2,(a:Int),(ti:Int),(to:Int),w)) 116:=m20.bk (by have:=k19.next; omega) (fun hz=>by have:=(SB _ hz).2; omega) g14'
     have z20:=m20.next
     refine ⟨fun hlt2=>?_,fun hge2=>?_⟩
     ·have hv':v<n3:=by omega
      obtain ⟨bv,ov,x1,x2,x3,hA3,-,-,hvx,v0,v1,v2⟩:=(t1'.off m20 fun z hz e=>by have:=(SB z e).2; omega).tri hv'
      refine ⟨v,rfl,bv,ov,hA3,hv',_,_,_,ldN3 v0 v1 v2,fun h21 e21=>?_⟩
      obtain ⟨h22,s22,k22,g22,z22⟩:=box_st (vs:=[.int .i64 x1,.int .i64 x2,.int .i64 x3]) e21 rfl (flat3 rfl rfl rfl)
      have hty:N.ty v=x3:=by simp [NetD.ty,hvx]
      have nxt:∀ h' R2,MkA h.next h' T p.length Bf R2→(∀ j,j<p.length→(R2 j).length=(R j).length)→(∀ j c,j<p.length→c<most p (j+1)→((R2 j)[c]? = some true↔(R' j)[c]? = some true∨(N.ty v=(a:Int)∧cel p (j+1) v=c)))→Mt (fun z=>∃ j,j<p.length∧z=Bf j) h20 h'→WR ((v:Int)+1) fun x36=>RE (n3 - v) fun m'=>∃ (v:Nat) (R':Nat→List Bool),x36=v∧v≤n3∧m' = n3 - v∧MkA h.next h' T p.length Bf R'∧(∀ j,j<p.length→(R' j).length=(R j).length)∧(∀ j c,j<p.length→c<most p (j+1)→((R' j)[c]? = some true↔(R j)[c]? = some true∨∃ u,u<v∧N.ty u=(a:Int)∧cel p (j+1) u=c))∧Mt (fun z=>∃ j,j<p.length∧z=Bf j) h19 h':=fun h' R2 a1 a2 a3 a4=>
       ⟨_,wrS (by omega),n3 - (v+1),by omega,v+1,R2,rfl,by omega,rfl,a1,a2,fun j c hj hc=>by
        rw [a3 j c hj hc,q20 j c hj hc]
        constructor
        ·rintro ((h1 | ⟨u,h1,h2⟩) | h1)
         ·exact .inl h1
         ·exact .inr ⟨u,by omega,h2⟩
         ·exact .inr ⟨v,by omega,h1⟩
        ·rintro (h1 | ⟨u,h1,h2⟩)
         ·exact .inl (.inl h1)
         ·by_cases e:u=v
          ·subst e; exact .inr h2
          ·exact .inl (.inr ⟨u,by omega,h2⟩),m20.then a4⟩
      refine ⟨h22,s22,_,ldC_of g22 rfl,_,ldC_of (k22.bk (by omega) g20) rfl,fun heq=>?_,fun hne2=>nxt h22 R' (M20.nw k22) l20 (fun j c _ _=>⟨.inl,fun hh=>hh.elim id fun ht=>absurd (hty.symm.trans ht.1) hne2⟩) (.of k22)⟩
      refine aMark (M20.nw k22) hp (((s8' k1219).off m20 fun z hz e=>by have:=(SB z e).2; omega).nw k22) (fun z (hz:h4.next≤z) j hj e=>by have:=(r4 j hj).2.2; omega) (fun j hj=>(l20 j hj).trans (ok12.1 j hj)) (by omega) (a:=v) (b:=v) (by omega) (by omega) fun h23 M23 m23=>⟨rfl,nxt h23 _ M23 (fun j hj=>(marked_len _ _ _ _ _).trans (l20 j hj)) (fun j c hj hc=>?_) ((Mt.of k22).then m23)⟩
      rw [marked_get,l20 j hj,ok12.1 j hj]
      constructor
      ·rintro (h1 | ⟨-,h2,-⟩)
       ·exact .inl h1
       ·exact .inr ⟨hty.trans heq,h2.symm⟩
      ·rintro (h1 | ⟨-,h2⟩)
       ·exact .inl h1
       ·exact .inr ⟨rfl,h2.symm,hc⟩
     ·obtain rfl:v=n3:=by omega
      refine next h20 R' M20 (ok12.next hx l20 fun j c hj hc=>?_) ((Mt.of k1219).then m20)
      rw [q20 j c hj hc]
      constructor
      ·rintro (h1 | ⟨u,h1,h2,h3⟩)
       ·exact .inl h1
       ·refine .inr (.inr ⟨rfl,?_,u,by omega,h2,h3⟩)
        simp only [Int.toNat_natCast,htb]
        exact hne
      ·rintro (h1 | ⟨h1,-⟩ | ⟨-,-,u,h1,h2,h3⟩)
       ·exact .inl h1
       ·simp at h1
       ·exact .inr ⟨u,by omega,h2,h3⟩
   ·exfalso
    rcases hxo.is with ⟨h1,-⟩ | ⟨h1,-⟩
    ·exact c1 h1
    ·exact c2 h1
  ·obtain rfl:i=n:=by omega
   exact hK1 B T Bf R h12 M12 ok12 k12
end
end Eva
end
section
open Go Go.RowKit
namespace Eva
section
variable {h h':AH} {F Fa Fo:Nat→Prop} {Q:Value→AH→Prop} {A:Option Addr} {n K g o C:Nat} {N M:NetD} {p:List (List Int)} {xs:List Chg} {costs:List Int}
theorem Shp.gatesL (S:Shp N M) (k:Nat):M.gatesL p k=N.gatesL p k:=by
 unfold NetD.gatesL
 congr 1
 funext c
 rw [S.ins,S.outs]
theorem Shp.startsL (S:Shp N M) (k:Nat):M.startsL p k=N.startsL p k:=by
 unfold NetD.startsL
 congr 1
 funext c
 rw [S.start]
theorem OvA.shp (O:OvA h Fo o N p) (S:Shp N M) (hok:M.Ok):OvA h Fo o M p:=by
 obtain ⟨w,a,⟨b1,b2,b3,b4,b5⟩,⟨c1,c2,c3,c4,c5⟩,⟨d1,d2,d3,d4,d5⟩,⟨e1,e2,e3,e4,e5⟩,q1,q2,q3,q4,q5⟩:=O
 have hg:((List.range p.length).map fun j=>M.gatesL p (j+1))=(List.range p.length).map fun j=>N.gatesL p (j+1):=by
  congr 1; funext j; exact Shp.gatesL S _
 have hs:((List.range p.length).map fun j=>M.startsL p (j+1))=(List.range p.length).map fun j=>N.startsL p (j+1):=by
  congr 1; funext j; exact Shp.startsL S _
 have hf:((List.range M.na).map fun a=>((M.fr a:Nat):Int))=(List.range N.na).map fun a=>((N.fr a:Nat):Int):=by
  rw [S.na]; congr 1; funext j; rw [S.fr]
 have ht:((List.range M.na).map fun a=>((M.to a:Nat):Int))=(List.range N.na).map fun a=>((N.to a:Nat):Int):=by
  rw [S.na]; congr 1; funext j; rw [S.to]
 exact ⟨w,a,⟨b1,b2,b3,b4,by rw [hf]; exact b5⟩,⟨c1,c2,c3,c4,by rw [ht]; exact c5⟩,⟨d1,d2,d3,d4,by rw [hg]; exact d5⟩,⟨e1,e2,e3,e4,by rw [hs]; exact e5⟩,by rw [S.size]; exact q1,by rw [S.nv]; exact q2,by rw [S.size]; exact q3,hok,by rw [S.nv,S.na]; exact q5⟩
theorem oAtNone (O:OvA h F o N p) {k c:Nat} (hk1:1≤k) (hk:k≤p.length) (hc:c<most p k) (hz:(N.ins p k c).length=0∨(N.outs p k c).length=0)
  (hK:∀ h',Nw h h'→Q (.int .i64 (-1)) h'):WC Tryz.prog 47 [.pointer (some ⟨o,0,none⟩),.int .i64 k,.int .i64 c,.int .i64 0,.int .i64 0] h Q:=by
 obtain ⟨k,rfl⟩:∃ k',k=k' + 1:=⟨k - 1,by omega⟩
 have hp6:=O.hp.few
 obtain ⟨b1,o1,n1,K1,b2,o2,K2,A3,K3,A4,K4,c3,hkn,l1,e2,l2,e3,e4,s3,s4⟩:=O.gate_ (k:=k) (by omega) hc
 obtain ⟨ni,hni⟩:∃ ni,(N.ins p (k+1) c).length=ni:=⟨_,rfl⟩
 obtain ⟨no,hno⟩:∃ no,(N.outs p (k+1) c).length=no:=⟨_,rfl⟩
 rw [hni] at e3 s3 hz
 rw [hno] at e4 s4 hz
 refine w_over_Over_At (oHas O hk1 hk hc ⟨_,rfl,fun _=>?_,fun h=>Bool.noConfusion h⟩)
 refine ⟨_,_,rfl,_,_,_,c3,_,wr_ok (by omega) (by omega),k,by omega,_,_,rfl,hkn,_,_,_,e2,c,rfl,_,_,rfl,hc,_,_,_,_,_,_,ldN2 e3 e4,fun h2 e7=>?_⟩
 obtain ⟨h3,hs3,k3,g3,z3⟩:=box_st (vs:=[.slice A3 ni K3,.slice A4 no K4]) e7 rfl (flat2 rfl rfl)
 have y0:ldC h3 h.next 0=some (.slice A3 ni K3):=ldC_of g3 rfl
 have y1:ldC h3 h.next 1=some (.slice A4 no K4):=ldC_of g3 rfl
 exact ⟨h3,hs3,fun h=>absurd h (by omega),fun _=>⟨_,_,_,y0,fun h=>hK _ k3,fun h0=>⟨fun h=>absurd h (by omega),fun _=>⟨_,_,_,y1,fun h=>hK _ k3,fun h1=>absurd hz (by omega)⟩⟩⟩⟩
structure RdyW (W:Nat→Prop) (h0 h:AH) (g o C:Nat) (costs:List Int) (N:NetD) (p:List (List Int)):Prop where
 gr:∃ Fa Ft F,GrX h Fa Ft F g N∧(∀ z,Fa z∨Ft z∨F z→h0.next≤z)∧∃ Fo,OvA h Fo o N p∧(∀ z,Fo z→h0.next≤z∧¬ Fa z∧¬ Ft z)∧¬ Fa C∧¬ Ft C∧∀ z,Fa z∨Ft z∨F z∨Fo z∨z=C→W z
 cs:Bk h C (costs.map (Value.int .i64)) 2
 cp:h0.next≤C∧C<h.next
 ok:CostsOk N p costs
 nn:∀ x∈costs,0≤x
theorem RdyA.w {h0 h:AH} (R:RdyA h0 h g o C costs N p):RdyW (fun z=>h0.next≤z) h0 h g o C costs N p:=by
 obtain ⟨⟨Fa,Ft,F,X,lo,Fo,O,loo,n1,n2⟩,cs,cp,co,nn⟩:=R
 refine ⟨⟨Fa,Ft,F,X,lo,Fo,O,loo,n1,n2,fun z hz=>?_⟩,cs,cp,co,nn⟩
 rcases hz with h | h | h | h | h
 ·exact lo z (.inl h)
 ·exact lo z (.inr (.inl h))
 ·exact lo z (.inr (.inr h))
 ·exact (loo z h).1
 ·rw [h]; exact cp.1
theorem RdyW.a {W:Nat→Prop} {h0 h:AH} (R:RdyW W h0 h g o C costs N p):RdyA h0 h g o C costs N p:=by
 obtain ⟨⟨Fa,Ft,F,X,lo,Fo,O,loo,n1,n2,-⟩,cs,cp,co,nn⟩:=R
 exact ⟨⟨Fa,Ft,F,X,lo,Fo,O,loo,n1,n2⟩,cs,cp,co,nn⟩
theorem RdyW.nw {W:Nat→Prop} {h0 h h':AH} (R:RdyW W h0 h g o C costs N p) (a:Nw h h'):RdyW W h0 h' g o C costs N p:=by
 obtain ⟨⟨Fa,Ft,F,X,lo,Fo,O,loo,nC⟩,cs,cp,co,nn⟩:=R
 have:=a.next
 exact ⟨⟨Fa,Ft,F,X.nw a,lo,Fo,O.nw a,loo,nC⟩,a.bk cp.2 cs,⟨cp.1,by omega⟩,co,nn⟩
theorem RdyW.mono {W W':Nat→Prop} {h0 h:AH} (R:RdyW W h0 h g o C costs N p) (hW:∀ z,W z→W' z):RdyW W' h0 h g o C costs N p:=by
 obtain ⟨⟨Fa,Ft,F,X,lo,Fo,O,loo,n1,n2,n3⟩,cs,cp,co,nn⟩:=R
 exact ⟨⟨Fa,Ft,F,X,lo,Fo,O,loo,n1,n2,fun z hz=>hW z (n3 z hz)⟩,cs,cp,co,nn⟩
theorem RdyW.lt {W:Nat→Prop} {h0 h:AH} (R:RdyW W h0 h g o C costs N p):RdyW (fun z=>W z∧z<h.next) h0 h g o C costs N p:=by
 obtain ⟨⟨Fa,Ft,F,X,lo,Fo,O,loo,n1,n2,n3⟩,cs,cp,co,nn⟩:=R
 refine ⟨⟨_,_,_,X.lt,fun z hz=>lo z ?_,fun z=>Fo z∧z<h.next,O.mono fun z hz hl=>⟨hz,hl⟩,fun z hz=>⟨(loo z hz.1).1,fun h=>(loo z hz.1).2.1 h.1,fun h=>(loo z hz.1).2.2 h.1⟩,fun h=>n1 h.1,fun h=>n2 h.1,fun z hz=>?_⟩,cs,cp,co,nn⟩
 ·rcases hz with h | h | h
  ·exact .inl h.1
  ·exact .inr (.inl h.1)
  ·exact .inr (.inr h.1)
 ·rcases hz with h | h | h | h | h
  ·exact ⟨n3 z (.inl h.1),h.2⟩
  ·exact ⟨n3 z (.inr (.inl h.1)),h.2⟩
  ·exact ⟨n3 z (.inr (.inr (.inl h.1))),h.2⟩
  ·exact ⟨n3 z (.inr (.inr (.inr (.inl h.1)))),h.2⟩
  ·exact ⟨n3 z (.inr (.inr (.inr (.inr h)))),by rw [h]; exact cp.2⟩
theorem RdyW.off {W S:Nat→Prop} {h0 h h':AH} (R:RdyW W h0 h g o C costs N p) (m:Mt S h h') (hS:∀ z,W z→¬ S z):RdyW W h0 h' g o C costs N p:=by
 obtain ⟨⟨Fa,Ft,F,X,lo,Fo,O,loo,n1,n2,n3⟩,cs,cp,co,nn⟩:=R
 have:=m.next
 exact ⟨⟨Fa,Ft,F,X.keep (fun z hz hl=>m.get z hl (hS z (n3 z (hz.elim .inl fun h=>.inr (h.elim .inl fun h=>.inr (.inl h)))))) m.next,lo,Fo,O.off m fun z hz=>hS z (n3 z (.inr (.inr (.inr (.inl hz))))),loo,n1,n2,n3⟩,m.bk cp.2 (hS _ (n3 _ (.inr (.inr (.inr (.inr rfl)))))) cs,⟨cp.1,by omega⟩,co,nn⟩
theorem aMendDoW {W:Nat→Prop} {h0 hb:AH} (R:RdyW W h0 hb g o C costs N p) (a:Nw hb h) (hna3:N.na≤300) (hsz:N.size p<1000000) {Fl:Nat→Prop} (hs:Sz cChg Fl h A n K xs) (hFl:∀ z,Fl z→¬ W z∨hb.next≤z)
  (hK1:BatchOk N xs→∀ C' costs' cnt h',RdyW (fun z=>(W z∧z<hb.next)∨h.next≤z) h0 h' g o C' costs' (N.doL xs) p→Mt (fun z=>W z∧z<hb.next) h h'→Q (.tuple #[.slice (some ⟨C',0,none⟩) (N.size p) (cx (N.size p)),.int .i64 cnt,.nilIface]) h')
  (hK2:¬ BatchOk N xs→∀ t u h',Nw h h'→Q (.tuple #[.slice none 0 0,.int .i64 0,.iface t u]) h') :
  WC Tryz.prog 11 [.pointer (some ⟨g,0,none⟩),.pointer (some ⟨o,0,none⟩),.slice (some ⟨C,0,none⟩) (N.size p) (cx (N.size p)),.slice A n K] h Q:=by
 obtain ⟨⟨Fa0,Ft0,F0,X0,lo0,Fo0,O0,loo,nC1,nC2,inW⟩,cs,cp,co,nn⟩:=R
 have nC:¬ Fa0 C∧¬ Ft0 C:=⟨nC1,nC2⟩
 have X:=(X0.lt).nw a
 have O:=((O0.mono (Fo':=fun z=>Fo0 z∧z<hb.next) fun z hz hl=>⟨hz,hl⟩).nw a)
 have az:=a.next
 have cs1:=a.bk cp.2 cs
 have hp:=O.hp
 have hnp:=hp.few
 have hok:=O.ok
 have hl:=hs.len
 obtain ⟨sz,hszE⟩:∃ sz,N.size p=sz:=⟨_,rfl⟩
 have hcl:costs.length=sz:=by rw [← hszE]; exact co.1
 rw [hszE] at hsz hK1 ⊢
 refine w_mend_Do (oSize O ⟨_,rfl,fun heq=>?_,fun hne=>absurd (by rw [hszE]) hne⟩)
 refine aTouched X.gr O hs (fun B T Bf Rm h2 M ok2 k2=>⟨_,_,_,none,rfl,fun _=>?_,fun t u h=>by cases h⟩) fun nB t u h2 k2=>⟨_,_,_,some (t,u),rfl,(fun h=>by cases h),fun t' u' e=>by cases e; exact hK2 nB t u h2 k2⟩
 have hFl':∀ z,Fl z→¬ (Fa0 z∧z<hb.next)∧¬ (Ft0 z∧z<hb.next):=fun z hz=>by
  have h1:=hFl z hz
  exact ⟨fun h=>h1.elim (fun h2=>h2 (inW z (.inl h.1))) (fun h2=>by omega),fun h=>h1.elim (fun h2=>h2 (inW z (.inr (.inl h.1)))) (fun h2=>by omega)⟩
 refine aApply (X.nw k2) (hs.nw k2) hFl' B fun h3 T3=>⟨none,rfl,fun _=>⟨by omega,fun h4 e4=>?_⟩,fun t u h=>by cases h⟩
 obtain ⟨⟨Fa3,Ft3,F3,X3,c1,c2⟩,m3⟩:=T3
 obtain ⟨M1,hM1⟩:∃ M1,N.doL xs=M1:=⟨_,rfl⟩
 have S:Shp N M1:=hM1 ▸ NetD.doL_shp xs
 have hok1:M1.Ok:=hM1 ▸ NetD.doL_ok hok xs B.ok
 rw [hM1] at X3 hK1
 have z2:=k2.next
 have z3:=m3.next
 have M3:MkA h.next h3 T p.length Bf Rm:=M.off m3 fun z hz ht=>by
  have:z<hb.next:=hz.elim (fun h=>h.2) fun h=>h.2
  rcases ht with rfl | ⟨i,hi,rfl⟩
  ·have:=M.lo.1; omega
  ·have:=M.lo.2 i hi; omega
 have O3:OvA h3 (fun z=>Fo0 z∧z<hb.next) o M1 p:=OvA.shp ((O.nw k2).off m3 fun z hz ht=>ht.elim (fun h=>(loo z hz.1).2.1 h.1) fun h=>(loo z hz.1).2.2 h.1) S hok1
 have cs3:Bk h3 C (costs.map (Value.int .i64)) 2:=m3.bk (by omega) (fun ht=>ht.elim (fun h=>nC.1 h.1) fun h=>nC.2 h.1) (k2.bk (by omega) cs1)
 have X3':=X3.lt
 obtain ⟨k4,g4,z4⟩:=news e4
 obtain ⟨C',hC'⟩:∃ C',h3.next=C':=⟨_,rfl⟩
 rw [hC'] at g4 z4
 rw [rep_one] at g4
 have g4':Bk h4 C' ((List.replicate sz (0:Int)).map (Value.int .i64)) 2:=by rw [List.map_replicate]; exact g4
 rw [hC']
 have s4:Sa cI (fun z=>z=C) h4 (some ⟨C,0,none⟩) sz (cx sz) costs:=(Sa.of_ints (F:=fun z=>z=C) cs3 hcl rfl (by omega)).nw k4
 obtain ⟨h5,y1,y2,y3,y4⟩:=copyL (n:=sz) (lo:=0) (x:=0) (K:=cx sz) g4' (by simp) s4 (by omega) (fun _=>rfl)
 have e5:putAt (List.replicate sz (0:Int)) costs 0=costs:=by
  unfold putAt
  simp [hcl]
 rw [e5] at y2
 have k35:Nw h3 h5:=⟨by omega,fun z hz=>(y4 z (by omega)).trans (k4.get z hz)⟩
 have unt:∀ k c,1≤k→k≤p.length→c<most p k→(¬ ∃ q x,q<n∧xs[q]? = some x∧Tch N p k c x)→CellOk M1 p costs k c:=fun k c h1 h2 h3 hno=>by
  refine CellOk.same S hok ?_ (co.2 k c h1 h2 h3)
  rw [← hM1]
  refine sameIn_doL hok xs B.ok fun x hx ht=>hno ?_
  obtain ⟨q,hq⟩:=List.getElem?_of_mem hx
  exact ⟨q,x,by have:=(List.getElem?_eq_some_iff.1 hq).1; omega,hq,ht⟩
 refine ⟨_,h5,y1,fun m x3 x4 h6=>∃ (i:Nat) (cs:List Int),x4=i∧i≤p.length∧m=p.length - i∧cs.length=sz∧Bk h6 C' (cs.map (Value.int .i64)) 2∧(∀ k c,1≤k→k≤p.length→c<most p k→(k≤i∨¬ ∃ q x,q<n∧xs[q]? = some x∧Tch N p k c x)→CellOk M1 p cs k c)∧(∀ x∈cs,0≤x)∧Nw h3 h6∧C' < h6.next,p.length,⟨0,costs,rfl,Nat.zero_le _,rfl,hcl,y2,fun k c h1 h2 h3 h4=>unt k c h1 h2 h3 (h4.elim (fun h=>by omega) id),nn,k35,by omega⟩,?_⟩
 rintro m x3 x4 h6 ⟨i,cs,rfl,hi,rfl,l6,b6,c6,n6,k6,lt6⟩
 refine ⟨fun hlt=>?_,fun hge=>?_⟩
 ·have hi':i<p.length:=by omega
  refine ⟨i,rfl,T,0,rfl,hi',_,_,_,(M3.nw k6).at_ hi',?_⟩
  refine ⟨fun m x5 x6 h7=>∃ (c:Nat) (cs:List Int),x6=c∧c≤most p (i+1)∧m=most p (i+1) - c∧cs.length=sz∧Bk h7 C' (cs.map (Value.int .i64)) 2∧(∀ k c',1≤k→k≤p.length→c' < most p k→(k≤i∨(k=i+1∧c' < c)∨¬ ∃ q x,q<n∧xs[q]? = some x∧Tch N p k c' x)→CellOk M1 p cs k c')∧(∀ x∈cs,0≤x)∧Nw h3 h7∧C' < h7.next,most p (i+1),⟨0,cs,rfl,Nat.zero_le _,rfl,l6,b6,fun k c' h1 h2 h3 h4=>c6 k c' h1 h2 h3 (h4.elim .inl fun h4=>h4.elim (fun h=>absurd h.2 (by omega)) .inr),n6,k6,lt6⟩,?_⟩
  rintro m x5 x6 h7 ⟨c,cs,rfl,hc,rfl,l7,b7,c7,n7,k7,lt7⟩
  have hmost:most p (i+1)≤N.nv:=by
   obtain ⟨row,hr⟩:∃ row,p[i+1 - 1]? = some row:=⟨_,List.getElem?_eq_getElem (by omega)⟩
   have h2:=most_row hr
   have h3:=mostOf_le (row:=row) (n:=(N.nv:Int)) (by omega) (fun x hx=>(hp.inr _ (List.mem_of_getElem? hr) x hx).2)
   omega
  have hnv:=O.nfew.1
  have hlen:=ok2.1 i hi'
  refine ⟨fun hlt2=>?_,fun hge2=>?_⟩
  ·have hc':c<most p (i+1):=by rw [hlen] at hlt2; omega
   have next:∀ h' cs' (x:Int),cs'.length=sz→Bk h' C' (cs'.map (Value.int .i64)) 2→(∀ k c',1≤k→k≤p.length→c' < most p k→(k≤i∨(k=i+1∧c' < c+1)∨¬ ∃ q x,q<n∧xs[q]? = some x∧Tch N p k c' x)→CellOk M1 p cs' k c')→(∀ x∈cs',0≤x)→Nw h3 h'→C' < h'.next→WR ((c:Int)+1) fun x12=>RE (most p (i+1) - c) fun m'=>∃ (c:Nat) (cs:List Int),x12=c∧c≤most p (i+1)∧m' = most p (i+1) - c∧cs.length=sz∧Bk h' C' (cs.map (Value.int .i64)) 2∧(∀ k c',1≤k→k≤p.length→c' < most p k→(k≤i∨(k=i+1∧c' < c)∨¬ ∃ q x,q<n∧xs[q]? = some x∧Tch N p k c' x)→CellOk M1 p cs k c')∧(∀ x∈cs,0≤x)∧Nw h3 h'∧C' < h'.next:=fun h' cs' x a1 a2 a3 a4 a5 a6=>
    ⟨_,wrS (by omega),most p (i+1) - (c+1),by omega,c+1,cs',rfl,by omega,rfl,a1,a2,a3,a4,a5,a6⟩
   obtain ⟨b,hb⟩:∃ b,(Rm i)[c]? = some b:=⟨_,List.getElem?_eq_getElem (by rw [hlen]; exact hc')⟩
   have hld:ldC h7 (Bf i) (0+c)=some (.bool b):=by
    refine ldC_of ((M3.nw k7).row i hi') ?_
    rw [Nat.zero_add,List.getElem?_map,hb]; rfl
   refine ⟨c,rfl,Bf i,0,rfl,by rw [hlen]; exact hc',b,hld,fun hbt=>?_,fun hbf=>?_⟩
   ·have w1:IntKind.i64.wrap ((i:Int)+1)=((i+1:Nat):Int):=wrS (by omega)
    have s7:Sa cI (fun z=>z=C') h7 (some ⟨C',0,none⟩) sz (cx sz) cs:=Sa.of_ints (F:=fun z=>z=C') b7 l7 rfl lt7
    have G7:=(X3'.nw k7).gr
    have O7:=O3.nw k7
    have hszM:M1.size p=sz:=by rw [S.size]; exact hszE
    have naM:M1.na≤300:=by rw [S.na]; exact hna3
    refine ⟨_,rfl,_,w1,aOne G7 naM O7 (k:=i+1) (by omega) (by omega) hc' s7 (by omega) (by omega) n7 (fun h2 d hd=>c7 (i+1 - 1) d (by omega) (by omega) hd (.inl (by omega))) fun A5 n5 K5 l h8 s8 hone hlnn k8=>⟨_,_,_,rfl,_,w1,?_⟩⟩
    have O8:=O7.nw k8
    have b8:=k8.bk lt7 b7
    have z8:=k8.next
    by_cases hz:(M1.ins p (i+1) c).length=0∨(M1.outs p (i+1) c).length=0
    ·refine oAtNone O8 (by omega) (by omega) hc' hz fun h9 k9=>⟨_,rfl,fun h=>absurd h (by omega),fun _=>next h9 cs (x5+1) l7 (k9.bk (by omega) b8) (fun k c' h1 h2 h3 h4=>?_) n7 ((k7.trans k8).trans k9) (by have:=k9.next; omega)⟩
     rcases h4 with h4 | ⟨rfl,h4⟩ | h4
     ·exact c7 k c' h1 h2 h3 (.inl h4)
     ·by_cases e:c' = c
      ·subst e
       intro i2 j2 a2 b2 g1 g2
       have h5:=(List.getElem?_eq_some_iff.1 g1).1
       have h6:=(List.getElem?_eq_some_iff.1 g2).1
       omega
      ·exact c7 _ c' h1 h2 h3 (.inr (.inl ⟨rfl,by omega⟩))
     ·exact c7 k c' h1 h2 h3 (.inr (.inr h4))
    ·refine oAt O8 (by omega) (by omega) hc' (i:=0) (j:=0) (by omega) (by omega) fun h9 k9=>⟨_,rfl,fun _=>?_,fun h=>absurd h (by omega)⟩
     have hse:=NetD.start_end (N:=M1) (k:=i+1) (by omega) (by omega) hc'
     obtain ⟨st,hst⟩:∃ st,M1.start p (i+1) c=st:=⟨_,rfl⟩
     have hn5:n5=M1.sz p (i+1) c:=by rw [← s8.len]; exact hone.1
     rw [hst,hszM] at hse
     obtain ⟨xx,KK,hxx,hsl⟩:=sl_rest (P:=Tryz.prog) (C:=C') (n:=sz) (lo:=st) sz64 (by omega)
     have e0:M1.start p (i+1) c+(0 * (M1.outs p (i+1) c).length+0)=st:=by rw [hst]; omega
     have b9:=k9.bk (by omega) b8
     obtain ⟨h10,q1,q2,q3,q4⟩:=copyL (K:=KK) b9 l7 (s8.nw k9) (lo:=st) (x:=xx) (by omega) hxx
     have z9:=k9.next
     refine ⟨fun _=>⟨st,by rw [e0],_,_,_,hsl,_,h10,q1,next h10 (putAt cs l st) (x5+1) ?_ q2 (fun k c' h1 h2 h3 h4=>?_) (putAt_nn n7 hlnn) ⟨by have:=k7.next; omega,fun z hz=>(q4 z (by omega)).trans (((k7.trans k8).trans k9).get z hz)⟩ (by omega)⟩,fun h=>absurd h (by rw [e0]; omega)⟩
     ·rw [putAt_len (by rw [s8.len]; omega)]; exact l7
     ·by_cases e:i+1=k∧c=c'
      ·obtain ⟨rfl,rfl⟩:=e
       rw [← hst]
       exact CellOk.put (by omega) (by omega) (by omega) hc' hone
      ·rw [← hst]
       refine CellOk.putO (by omega) (by omega) (by omega) hc' hone.1 h1 h2 h3 e (c7 k c' h1 h2 h3 ?_)
       rcases h4 with h4 | h4 | h4
       ·exact .inl h4
       ·exact .inr (.inl ⟨h4.1,by omega⟩)
       ·exact .inr (.inr h4)
   ·subst hbf
    refine next h7 cs x5 l7 b7 (fun k c' h1 h2 h3 h4=>c7 k c' h1 h2 h3 ?_) n7 k7 lt7
    rcases h4 with h4 | ⟨rfl,h4⟩ | h4
    ·exact .inl h4
    ·by_cases e:c' = c
     ·subst e
      refine .inr (.inr fun ⟨q,x,h5,h6,h7⟩=>?_)
      have:=(ok2.2 i c' hi').2 ⟨hc',q,x,h5,h6,h7⟩
      rw [hb] at this
      cases this
     ·exact .inr (.inl ⟨rfl,by omega⟩)
    ·exact .inr (.inr h4)
  ·have hcm:c=most p (i+1):=by rw [hlen] at hge2; omega
   refine ⟨_,wrS (by omega),p.length - (i+1),by omega,i+1,cs,rfl,by omega,rfl,l7,b7,fun k c' h1 h2 h3 h4=>c7 k c' h1 h2 h3 ?_,n7,k7,lt7⟩
   rcases h4 with h4 | h4
   ·by_cases e:k=i+1
    ·subst e; exact .inr (.inl ⟨rfl,by omega⟩)
    ·exact .inl (by omega)
   ·exact .inr (.inr h4)
 ·obtain rfl:i=p.length:=by omega
  have z6:=k6.next
  refine hK1 B C' cs x3 h6 ⟨⟨_,_,_,X3'.nw k6,fun z hz=>?_,fun z=>Fo0 z∧z<hb.next,O3.nw k6,fun z hz=>⟨(loo z hz.1).1,fun hf=>?_,fun hf=>?_⟩,fun hf=>by have:=hf.2; omega,fun hf=>by have:=hf.2; omega,fun z hz=>?_⟩,b6,⟨by omega,lt6⟩,⟨by rw [S.size,hszE]; exact l6,fun k c h1 h2 h3=>c6 k c h1 h2 h3 (.inl h2)⟩,n6⟩ ?_
  ·rcases hz with hz | hz | hz
   ·rcases c1 z (.inl hz.1) with h | h | h
    ·exact lo0 z (.inl h.1)
    ·exact lo0 z (.inr (.inl h.1))
    ·omega
   ·rcases c1 z (.inr hz.1) with h | h | h
    ·exact lo0 z (.inl h.1)
    ·exact lo0 z (.inr (.inl h.1))
    ·omega
   ·exact lo0 z (.inr (.inr (c2 z hz.1).1))
  ·rcases c1 z (.inl hf.1) with h | h | h
   ·exact (loo z hz.1).2.1 h.1
   ·exact (loo z hz.1).2.2 h.1
   ·have:=hz.2; omega
  ·rcases c1 z (.inr hf.1) with h | h | h
   ·exact (loo z hz.1).2.1 h.1
   ·exact (loo z hz.1).2.2 h.1
   ·have:=hz.2; omega
  ·have hz':Fa3 z∨Ft3 z→(W z∧z<hb.next)∨h.next≤z:=fun hz=>by
    rcases c1 z hz with h | h | h
    ·exact .inl ⟨inW z (.inl h.1),h.2⟩
    ·exact .inl ⟨inW z (.inr (.inl h.1)),h.2⟩
    ·exact .inr (by omega)
   rcases hz with h | h | h | h | h
   ·exact hz' (.inl h.1)
   ·exact hz' (.inr h.1)
   ·exact .inl ⟨inW z (.inr (.inr (.inl (c2 z h.1).1))),(c2 z h.1).2⟩
   ·exact .inl ⟨inW z (.inr (.inr (.inr (.inl h.1)))),h.2⟩
   ·exact .inr (by omega)
  ·refine ((Mt.of k2).trans m3 fun z hz hl=>hz) |>.nw k6 |>.mono fun z hz _=>?_
   rcases hz with h | h
   ·exact ⟨inW z (.inl h.1),h.2⟩
   ·exact ⟨inW z (.inr (.inl h.1)),h.2⟩
end
end Eva
end
section
open Go Go.RowKit
open Classical in
noncomputable def NetD.step (N:NetD) (l:List Chg):NetD:=if BatchOk N l then N.doL l else N
noncomputable def NetD.behind (N:NetD) (ls:List (List Chg)):NetD:=ls.foldl NetD.step N
namespace Eva
theorem tyC:tyB Tryz.prog 116 5 40=true:=by kernel_rfl
section
variable {h h':AH} {F G:Nat→Prop} {Q:Value→AH→Prop} {A Av Aa At Ap Al:Option Addr} {n K nv Kv na Ka nt Kt np Kp nl Kl g o C:Nat} {N:NetD} {p:List (List Int)} {xs:List Chg} {ls:List (List Chg)} {costs:List Int}
theorem aTo19 (hs:Sz cChg F h A n K xs) (hn:n≤1000) (hK:∀ A' K' h',Sa cChg (fun z=>h.next≤z) h' A' n K' xs→Nw h h'→Q (.slice A' n K') h') :
  WC Tryz.prog 12 [.slice A n K] h Q:=by
 have hl:=hs.len
 refine w_law19_To ⟨fun m A' n' K' x h1=>∃ i:Nat,x=i∧i≤n∧n' = i∧m=n - i∧OwnP cChg h1 (ownB A') 116 A' i K' (xs.take i)∧(∀ z,ownB A' z→h.next≤z)∧Nw h h1,n,⟨0,rfl,Nat.zero_le _,rfl,rfl,OwnP.nil _ _ _ _,fun z hz=>hz.elim,Nw.refl _⟩,?_⟩
 rintro m A' n' K' x h1 ⟨i,rfl,hi,rfl,rfl,o1,lo1,k1⟩
 refine ⟨fun hlt=>?_,fun hge=>?_⟩
 ·obtain ⟨b,of,x,hA,-,hlb,hx,hc,-⟩:=(hs.nw k1).chg (k:=n') (by omega)
  have c:=fun j u (hj:(chgL x)[j]? = some u)=>hc j u hj
  refine ⟨n',rfl,b,of,hA,by omega,_,c 0 _ rfl,by omega,_,c 1 _ rfl,by omega,_,c 2 _ rfl,by omega,_,c 3 _ rfl,by omega,_,c 4 _ rfl,fun h2 e2=>?_⟩
  obtain ⟨k2,g2,z2⟩:=news e2
  have hz:Sz cChg (fun z=>z=h1.next) h2 (some ⟨h1.next,0,none⟩) 1 2 [x]:=Sz.one (cells:=chgL x) g2 rfl (by omega) rfl rfl
  obtain ⟨A3,K3,h3,y1,y2,y3,y4⟩:=app_row free_chg tyC (o1.nw k2) hz (by omega) (by omega)
  have z1:=k1.next
  refine ⟨A3,_,K3,h3,y1,_,wrS (by omega),n - (n' + 1),by omega,n' + 1,rfl,by omega,rfl,rfl,?_,fun z hz=>?_,?_⟩
  ·rw [List.take_add_one,hx]; exact y2
  ·rcases y4 z hz with h | h
   ·exact lo1 z h
   ·omega
  ·exact y3.is_nw (k1.trans k2) fun z hz=>lo1 z hz
 ·obtain rfl:n' = n:=by omega
  have e:xs.take n' = xs:=List.take_of_length_le (by omega)
  rw [e] at o1
  exact hK _ _ _ (o1.sa.mono fun z hz _=>lo1 z hz) k1
end
end Eva
end
section
open Go Go.RowKit
theorem shutC_len (l:List Int):(shutC l).length=l.length:=by simp [shutC]
theorem shutC_batch {N M:NetD} {l:List Int} (S:Shp N M) (hl:l.length≤256) (h:∀ a∈l,∃ b:Nat,b<N.na∧a=b) (hn:l.Nodup):BatchOk M (shutC l):=by
 refine ⟨by rw [shutC_len]; exact hl,shutC_ok S h,fun j i x y hji hx hy hk=>?_⟩
 unfold shutC at hx hy
 rw [List.getElem?_map] at hx hy
 cases h1:l[j]? with
 | none=>rw [h1] at hx; cases hx
 | some a=>
  cases h2:l[i]? with
  | none=>rw [h2] at hy; cases hy
  | some b=>
   rw [h1] at hx
   rw [h2] at hy
   obtain rfl:=Option.some.inj hx
   obtain rfl:=Option.some.inj hy
   obtain ⟨l1,e1⟩:=List.getElem?_eq_some_iff.1 h1
   obtain ⟨l2,e2⟩:=List.getElem?_eq_some_iff.1 h2
   have:=List.pairwise_iff_getElem.1 hn j i l1 l2 hji
   rw [e1,e2] at this
   unfold key0 at hk
   simp at hk
   exact this hk
namespace Eva
theorem tyC20:tyB Tryz.prog 49 5 40=true:=by kernel_rfl
section
variable {h h':AH} {F G:Nat→Prop} {Q:Value→AH→Prop} {A Av Aa At Ap:Option Addr} {n K nv Kv na Ka nt Kt np Kp:Nat} {N:NetD} {p:List (List Int)}
theorem aKnownS (hK:Q (.bool true) h):WC Tryz.prog 4 [] h Q:=WC.orc (by rfl) hK
theorem lawShut (Z0:NetZ h F Av nv Kv Aa na Ka At nt Kt N) (hs0:Sz (Rc.sliceZ cI) G h Ap np Kp p) (hmx:np≤9223372036854775807) {l a b:Nat} (hl:l≤255) (ha:a≤65535) (hb:b≤65535) :
  WC Tryz.prog 3 [.agg #[.slice Av nv Kv,.slice Aa na Ka,.slice At nt Kt],.agg #[.slice Ap np Kp],.int .u8 l,.int .u16 a,.int .u16 b] h (fun v h'=>v = .bool true∧Nw h h'):=by
 have Z:=Z0.old
 have hs:Sz (Rc.sliceZ cI) (fun z=>z<h.next) h Ap np Kp p:=hs0.mono fun z _ hz=>hz
 have lv:=Z.vs.len
 have la:N.xa.length=na:=Z.xa.len
 have lna:N.na=na:=la
 have lp:p.length=np:=hs.len
 refine w_top_TopShut fun h1 e1 h2 e2=>?_
 obtain ⟨k1,g1,z1⟩:=news e1
 obtain ⟨k2,g2,z2⟩:=news e2
 have k12:=k1.trans k2
 have g12:=k2.bk (by omega) g1
 have bN:∀ {h'},Nw h2 h'→ldN h' h.next 0 3=some [.slice Av nv Kv,.slice Aa na Ka,.slice At nt Kt]:=fun a=>ldN3' (ldC_of (a.bk (by omega) g12) rfl) (ldC_of (a.bk (by omega) g12) rfl) (ldC_of (a.bk (by omega) g12) rfl)
 have bA:∀ {h'},Nw h2 h'→ldC h' h.next 1=some (.slice Aa na Ka):=fun a=>ldC_of (a.bk (by omega) g12) rfl
 have bP:∀ {h'},Nw h2 h'→ldN h' h1.next 0 1=some [.slice Ap np Kp]:=fun a=>ldN1 (ldC_of (a.bk (by omega) g2) rfl)
 have bQ:∀ {h'},Nw h2 h'→ldC h' h1.next 0=some (.slice Ap np Kp):=fun a=>ldC_of (a.bk (by omega) g2) rfl
 refine aKnownS ⟨true,rfl,fun _=>⟨_,_,_,_,_,_,_,_,_,bN (Nw.refl _),_,_,_,bP (Nw.refl _),aMay (Z.nw k12) (hs.nw k12) hmx fun b2 h4 k4 hb2=>⟨b2,rfl,fun ht=>⟨_,_,_,bA k4,fun _=>⟨rfl,k12.trans k4⟩,fun hne=>⟨_,_,_,_,_,_,_,_,_,bN k4,_,_,_,bP k4,?_⟩⟩,fun _=>⟨rfl,k12.trans k4⟩⟩⟩,fun h=>Bool.noConfusion h⟩
 obtain ⟨hf,ok,hv60,hp10,hp60,hp⟩:=hb2 ht
 have hna:0<na:=by omega
 have hna3:na≤300:=by have:=hf.2.1; omega
 have hnp:1≤np:=by have:=hp.some_; omega
 have hnp6:np≤6:=by have:=hp.few; omega
 have k14:=k12.trans k4
 have z14:=k14.next
 have z4:=k4.next
 refine aReady0 (Z.nw k14) hf ok hna (hs.nw k14) hp fun g o C cs h5 R5 k5=>⟨_,_,_,_,_,_,rfl,fun _=>?_,fun h=>Bool.noConfusion h⟩
 have k25:=k4.trans k5
 have k05:=k12.trans k25
 have z5:=k5.next
 obtain ⟨k,hk⟩:∃ k,l % np+1=k:=⟨_,rfl⟩
 obtain ⟨s,hs_⟩:∃ s,a % na=s:=⟨_,rfl⟩
 obtain ⟨t,ht_⟩:∃ t,b % na=t:=⟨_,rfl⟩
 have hlm:l % np<np:=Nat.mod_lt _ (by omega)
 have hsn:s<na:=by rw [← hs_]; exact Nat.mod_lt _ hna
 have htn:t<na:=by rw [← ht_]; exact Nat.mod_lt _ hna
 have hsN:s<N.na:=by omega
 have htN:t<N.na:=by omega
 have hts:=NetD.to_lt ok hsN
 obtain ⟨b3,o3,A3,n3,K3,row,hA3,-,hb3,hrow,r0,srow⟩:=(hs.nw k05).rowZ (k:=k - 1) (by omega)
 obtain ⟨hrl,hrx⟩:=part_row hp hrow
 have hn3:n3=N.nv:=by rw [← srow.len]; exact hrl
 obtain ⟨b6,o6,u,v,w,hA6,-,hb6,hu,f0,f1,f2⟩:=(Z.nw k05).xa.tri (k:=s) hsn
 have harc:N.arc s=(u,v,w):=by unfold NetD.arc; rw [hu]; rfl
 have hv':v=(N.to s:Int):=by have:=hts.2; rw [harc] at this; exact this
 subst hv'
 obtain ⟨b7,o7,x,hA7,-,hb7,hx,x0⟩:=srow.int (k:=N.to s) (by omega)
 have cx_:=cel_row hrow hx
 obtain ⟨x',hx',xn,-⟩:=hrx _ hts.1
 obtain rfl:=Option.some.inj (hx.symm.trans hx')
 obtain ⟨c,rfl⟩:=Int.eq_ofNat_of_zero_le xn
 have hc:cel p k (N.to s)=c:=by rw [cx_]; simp
 subst hA3 hA6 hA7
 have wl:IntKind.i64.wrap (l:Int)=(l:Int):=wr_ok (by omega) (by omega)
 have wa:IntKind.i64.wrap (a:Int)=(a:Int):=wr_ok (by omega) (by omega)
 have wb:IntKind.i64.wrap (b:Int)=(b:Int):=wr_ok (by omega) (by omega)
 have wk:IntKind.i64.wrap (1+((l % np:Nat):Int))=(k:Int):=by rw [wr_ok (by omega) (by omega)]; omega
 have wk1:IntKind.i64.wrap ((k:Int) - 1)=((k - 1:Nat):Int):=by rw [Int.natCast_sub (by omega)]; exact wr_ok (by omega) (by omega)
 refine ⟨_,wl,_,_,_,bQ k25,((l % np:Nat):Int),by omega,rfl,_,wk,_,wa,_,_,_,bA k25,(s:Int),by omega,by rw [← hs_]; rfl,_,wb,_,_,_,bA k25,(t:Int),by omega,by rw [← ht_]; rfl,rfl,_,_,_,bP k25,_,_,_,bQ k25,_,wk1,k - 1,rfl,b3,o3,rfl,by omega,_,_,_,r0,_,_,_,bA k25,s,rfl,b6,o6,rfl,hsn,_,f1,N.to s,rfl,b7,o7,rfl,by omega,_,x0,?_⟩
 refine aTo13 (hs.nw k05) (by omega) (fun x hx=>by rw [hp.rows x hx]; omega) fun A22 K22 h6 s6 k6=>⟨_,_,_,rfl,(k6.ldC hb7 _).trans x0,(k6.ldC hb6 _).trans f1,bA (k25.trans k6),(k6.ldC hb3 _).trans r0,bQ (k25.trans k6),?_⟩
 refine aMarks (k:=k) (c:=c) hp s6 (by omega) (by omega) fun B h7 bM loB ltB k7=>⟨_,_,_,rfl,?_⟩
 obtain ⟨⟨Fa5,Ft5,F5,X5,lo5,Fo5,O5,loo5,nC5⟩,cs5,cp5,co5,nn5⟩:=id R5
 have k57:=k6.trans k7
 have k27:=k25.trans k57
 refine aInside (k:=k) (c:=c) (X5.gr.nw k57) hp bM ltB hsN htN fun v h8 k8 hvI hv1 hv2=>⟨_,rfl,_,_,_,_,_,_,_,_,_,bN (k27.trans k8),_,_,_,bP (k27.trans k8),?_⟩
 have k08:=(k05.trans k57).trans k8
 refine aCross16 (Z.nw k08) ok (by omega) (hs.nw k08) hp (k:=k) (by omega) (by omega) fun A28 n28 K28 h9 s9 k9=>⟨_,_,_,rfl,?_⟩
 obtain ⟨xs,hxs⟩:∃ xs,N.crsL p k N.na=xs:=⟨_,rfl⟩
 rw [hxs] at s9
 have hxl:xs.length=n28:=s9.len
 have hxn:xs.length≤N.na:=by rw [← hxs]; exact NetD.crsL_len _
 have hxd:xs.Nodup:=by rw [← hxs]; exact NetD.crsL_one _
 have hxlt:∀ a∈xs,∃ b:Nat,b<N.na∧a=b:=fun a ha=>by rw [← hxs] at ha; exact NetD.crsL_lt a ha
 have k59:=(k57.trans k8).trans k9
 have k29:=k25.trans k59
 have k09:=k12.trans k29
 have z59:=k59.next
 have z58:=(k57.trans k8).next
 have s9':Sa cI (fun z=>h5.next≤z∧z<h9.next) h9 A28 n28 K28 xs:=s9.mono fun z hz hlt=>⟨by omega,hlt⟩
 have hsz:N.size p<1000000:=size_few hf.2.1 hp.few
 have R9:RdyW (fun z=>h4.next≤z∧z<h5.next) h4 h9 g o C cs N p:=by
  exact (((R5.w).lt).mono fun z hz=>hz).nw k59
 obtain ⟨J,hJ⟩:∃ J:Nat→Option Addr→Nat→Nat→Option Addr→Nat→Nat→Int→AH→Prop,∀ m A1 n1 K1 A2 n2 K2 x hh,J m A1 n1 K1 A2 n2 K2 x hh↔∃ (i d C':Nat) (cs':List Int) (M:NetD) (W:Nat→Prop),A1=some ⟨C',0,none⟩∧n1=N.size p∧K1=cx (N.size p)∧x=i∧i≤n28∧m=n28 - i∧d≤i∧i - d<100∧(i=n28→d=i)∧n2=i - d ∧
   Shut N M (xs.take d)∧M.Ok∧RdyW W h4 hh g o C' cs' M p∧(∀ z,W z→(h4.next≤z∧z<h5.next)∨h9.next≤z)∧OwnP cChg hh (ownB A2) 49 A2 n2 K2 (shutC ((xs.take i).drop d))∧(∀ z,ownB A2 z→h9.next≤z∧¬ W z)∧Sa cI (fun z=>h5.next≤z∧z<h9.next) hh A28 n28 K28 xs∧Mt (fun z=>h4.next≤z) h9 hh:=⟨_,fun _ _ _ _ _ _ _ _ _=>Iff.rfl⟩
 refine ⟨J,n28,(hJ _ _ _ _ _ _ _ _ _).2 ⟨0,0,C,cs,N,fun z=>h4.next≤z∧z<h5.next,rfl,rfl,rfl,rfl,Nat.zero_le _,rfl,Nat.le_refl _,by omega,fun _=>rfl,rfl,by simpa using Shut.nil N,ok,R9,fun z hz=>.inl hz,OwnP.nil _ _ _ _,fun z hz=>hz.elim,s9',Mt.refl _ _⟩,fun m A29 n29 K29 A30 n30 K30 x15 h10 hj=>?_⟩
 obtain ⟨i,d,C',cs',M,W,rfl,rfl,rfl,rfl,hi,rfl,hdi,hid,hend,rfl,S,okM,R10,hW,o10,lo10,s10,m10⟩:=(hJ _ _ _ _ _ _ _ _ _).1 hj
 have z10:=m10.next
 have k010:Nw h4 h10:=m10.is_nw (k5.trans k59) fun z hz=>hz
 have k210:Nw h2 h10:=k4.trans k010
 have kh10:Nw h h10:=k12.trans k210
 refine ⟨fun hlt=>?_,fun hge=>?_⟩
 ·have hin:i<n28:=by omega
  obtain ⟨b4,o4,x16,hA4,-,-,hx16,e16⟩:=s10.int (k:=i) hin
  have nxt:(xs.take (i+1)).drop d=(xs.take i).drop d ++ [x16]:=by
   rw [List.take_add_one,hx16,List.drop_append_of_le_length (by rw [List.length_take]; omega)]
   rfl
  refine ⟨i,rfl,b4,o4,hA4,hin,x16,e16,fun h11 e11=>?_⟩
  obtain ⟨k11,g11,z11⟩:=news e11
  have hz:Sz cChg (fun z=>z=h10.next) h11 (some ⟨h10.next,0,none⟩) 1 2 [(1,x16,0,0,INF)]:=Sz.one (cells:=chgL (1,x16,0,0,INF)) g11 rfl (by omega) rfl rfl
  obtain ⟨A31,K31,h12,y1,y2,y3,y4⟩:=app_row free_chg tyC20 (o10.nw k11) hz (by omega) (by omega)
  have e12:shutC ((xs.take i).drop d) ++ [(1,x16,0,0,INF)]=shutC ((xs.take (i+1)).drop d):=by rw [nxt]; simp [shutC]
  rw [e12] at y2
  have z12:=y3.next
  have mW:Mt (ownB A30) h10 h12:=(Mt.of k11).then y3
  have R12:RdyW (fun z=>W z∧z<h10.next) h4 h12 g o C' cs' M p:=(R10.lt).off mW fun z hz ho=>(lo10 z ho).2 hz.1
  have lo12:∀ z,ownB A31 z→h9.next≤z∧¬ (W z∧z<h10.next):=fun z hz=>(y4 z hz).elim (fun h=>⟨(lo10 z h).1,fun g=>(lo10 z h).2 g.1⟩) (fun h=>⟨by omega,fun g=>by omega⟩)
  have s12:Sa cI (fun z=>h5.next≤z∧z<h9.next) h12 A28 n28 K28 xs:=s10.off mW fun z hz ho=>by have:=(lo10 z ho).1; omega
  have m12:Mt (fun z=>h4.next≤z) h9 h12:=m10.then (mW.mono fun z ho _=>by have:=(lo10 z ho).1; omega)
  have hn31:i - d+1=i+1 - d:=by omega
  rw [hn31] at y1 y2
  have flush:CS 12 [.slice A31 (i+1 - d) K31] h12 fun A32 n32 K32 h13=>CL 11 [.pointer (some ⟨g,0,none⟩),.pointer (some ⟨o,0,none⟩),.slice (some ⟨C',0,none⟩) (N.size p) (cx (N.size p)),.slice A32 n32 K32] h13
    (fun v1 h14=>∃ A33 n33 K33 x17 e1,v1 = .tuple #[.slice A33 n33 K33,.int .i64 x17,ifaceV e1]∧(e1=none→WR ((i:Int)+1) fun x18=>RE (n28 - i) (J · A33 n33 K33 none 0 0 x18 h14))∧(∀ t1 u1,e1=some (t1,u1)→(Value.bool false = .bool true∧Nw h h14))):=by
   refine aTo19 y2.sa.z (by omega) fun A32 K32 h13 s13 k13=>⟨_,_,_,rfl,?_⟩
   have hpl:((xs.take (i+1)).drop d).length=i+1 - d:=by rw [List.length_drop,List.length_take]; omega
   have hsub:∀ a∈(xs.take (i+1)).drop d,a∈xs:=fun a ha=>List.mem_of_mem_take (List.mem_of_mem_drop ha)
   have BO:BatchOk M (shutC ((xs.take (i+1)).drop d)):=shutC_batch S.shp (by omega) (fun a ha=>hxlt a (hsub a ha)) ((hxd.sublist (List.take_sublist _ _)).sublist (List.drop_sublist _ _))
   have hszM:M.size p=N.size p:=S.shp.size
   rw [← hszM]
   have z13:=k13.next
   refine aMendDoW (R12.nw k13) (Nw.refl _) (by rw [S.shp.na]; omega) (by rw [hszM]; exact hsz) s13.z (fun z hz=>.inl fun hw=>by omega) (fun B' C2 cs2 cnt h14 R14 m14=>⟨_,_,_,_,none,rfl,fun _=>?_,fun t1 u1 h=>by cases h⟩) fun nB=>absurd BO nB
   have z14':=m14.next
   have e14:xs.take (i+1)=xs.take d ++ (xs.take (i+1)).drop d:=by
    have:=List.take_append_drop d (xs.take (i+1))
    rw [List.take_take,Nat.min_eq_left (by omega)] at this
    exact this.symm
   have S14:Shut N (M.doL (shutC ((xs.take (i+1)).drop d))) (xs.take (i+1)):=by
    have:=Shut.doL ((xs.take (i+1)).drop d) S fun a ha=>hxlt a (hsub a ha)
    rw [← e14] at this
    exact this
   refine ⟨((i+1:Nat):Int),wrS (by omega),n28 - (i+1),by omega,(hJ _ _ _ _ _ _ _ _ _).2 ⟨i+1,i+1,C2,cs2,_,_,rfl,hszM,by rw [hszM],rfl,by omega,rfl,Nat.le_refl _,by omega,fun _=>rfl,by omega,S14,NetD.doL_ok okM _ BO.ok,R14,fun z hz=>?_,?_,fun z hz=>hz.elim,?_,?_⟩⟩
   ·rcases hz with h | h
    ·exact hW z h.1.1
    ·right; omega
   ·rw [List.drop_of_length_le (by rw [List.length_take]; omega)]
    exact OwnP.nil _ _ _ _
   ·refine (s12.nw k13).off m14 fun z hz hw=>?_
    rcases hW z hw.1.1 with h | h <;> omega
   ·refine (m12.nw k13).then (m14.mono fun z hw _=>?_)
    rcases hW z hw.1.1 with h | h <;> omega
  refine ⟨A31,_,K31,h12,y1,fun _=>flush,fun hn=>⟨_,wr_ok (by omega) (by omega),fun _=>flush,fun hn2=>?_⟩⟩
  refine ⟨((i+1:Nat):Int),wrS (by omega),n28 - (i+1),by omega,(hJ _ _ _ _ _ _ _ _ _).2 ⟨i+1,d,C',cs',M,_,rfl,rfl,rfl,rfl,by omega,rfl,by omega,by omega,fun h=>by omega,rfl,S,okM,R12,fun z hz=>hW z hz.1,y2,lo12,s12,m12⟩⟩
 ·obtain rfl:i=n28:=by omega
  obtain rfl:=hend rfl
  rw [List.take_of_length_le (by omega)] at S
  obtain ⟨⟨Fa,Ft,FF,X,lo,Fo,O,loo,-⟩,cs1,cp1,co1,nn1⟩:=R10
  have hszM:M.size p=N.size p:=S.shp.size
  rw [← hszM]
  refine aDist X.gr O cs1 cp1.2 co1 (by rw [hszM]; exact hsz) (by rw [S.shp.na]; exact hsN) (by rw [S.shp.na]; exact htN) fun dd h17 k17 d1 d2 d3=>⟨_,none,rfl,?_⟩
  have k217:=k210.trans k17
  have kh17:=kh10.trans k17
  have z17:=kh17.next
  obtain ⟨b6',o6',u1,v1,w1,hA6',-,-,hu1,-,-,f2s⟩:=(Z.nw kh17).xa.tri (k:=s) hsn
  obtain ⟨b8,o8,u2,v2,w2,hA8,-,-,hu2,-,-,f2t⟩:=(Z.nw kh17).xa.tri (k:=t) htn
  have ws:N.w s=w1:=by unfold NetD.w NetD.arc; rw [if_pos hsN,hu1]; rfl
  have wt:N.w t=w2:=by unfold NetD.w NetD.arc; rw [if_pos htN,hu2]; rfl
  have hww:∀ x,winB N p k c x=true↔(cel p k (N.fr x)=cel p k (N.to s)∧cel p k (N.to x)=cel p k (N.to s)):=fun x=>by rw [hc]; unfold winB; simp
  have want:=shut_want (p:=p) (k:=k) ok (by rw [hxs]; exact S) hsN htN (v:=v) (d:=dd) hvI (fun a c' y hw hy=>hv1 a c' y (hw.mono fun x hx=>(hww x).2 hx) hy) (fun hlt=>by
   obtain ⟨a',c',y,q1,q2,q3⟩:=hv2 hlt
   exact ⟨a',c',y,q1.mono fun x hx=>(hww x).1 hx,q2,q3⟩) d1 d2
  have bt:=NetD.w_bd ok t
  have eA:=addI_of (c:=(v:Int)) (x:=N.w t) (by unfold INF INFN at *; omega) (by unfold INF at *; omega)
  have s17:=s10.nw k17
  have mem:∀ {x:Nat},x<N.na→((x:Int)∈xs↔N.crs p k x=true):=fun {x} hx=>by rw [← hxs,NetD.mem_crsL]; exact ⟨fun h=>h.2,fun h=>⟨hx,h⟩⟩
  refine ⟨_,_,_,bA k217,t,rfl,b8,o8,hA8,htn,_,f2t,aAdd6 _ _ ⟨_,rfl,fun hst=>?_,fun hst=>?_⟩⟩
  ·refine ⟨_,_,_,bA k217,b6',o6',hA6',hsn,_,f2s,fun hwi=>⟨fun _=>⟨fun _=>⟨rfl,kh17⟩,fun hne=>absurd ?_ hne⟩,fun t u h=>by cases h⟩,fun hwi=>?_⟩
   ·rw [want,if_pos (.inl (by rw [ws,hwi]))]
   refine aPlace6 s17 (by omega) _ fun y hy=>⟨_,rfl,fun hy0=>⟨fun _=>⟨fun _=>⟨rfl,kh17⟩,fun hne=>absurd ?_ hne⟩,fun t u h=>by cases h⟩,fun hy0=>?_⟩
   ·rw [want,if_pos (.inr (.inl ((mem hsN).1 (hy.1 hy0))))]
   refine aPlace6 s17 (by omega) _ fun y' hy'=>⟨_,rfl,fun hy0'=>⟨fun _=>⟨fun _=>⟨rfl,kh17⟩,fun hne=>absurd ?_ hne⟩,fun t u h=>by cases h⟩,fun hy0'=>⟨fun _=>⟨fun _=>⟨rfl,kh17⟩,fun hne=>absurd ?_ hne⟩,fun t u h=>by cases h⟩⟩
   ·rw [want,if_pos (.inr (.inr ((mem htN).1 (hy'.1 hy0'))))]
   ·rw [want,if_neg,if_pos (by omega)]
    rintro (h | h | h)
    ·exact hwi (by rw [← ws]; exact h)
    ·exact hy0 (hy.2 ((mem hsN).2 h))
    ·exact hy0' (hy'.2 ((mem htN).2 h))
  ·refine ⟨_,_,_,bA k217,b6',o6',hA6',hsn,_,f2s,fun hwi=>⟨fun _=>⟨fun _=>⟨rfl,kh17⟩,fun hne=>absurd ?_ hne⟩,fun t u h=>by cases h⟩,fun hwi=>?_⟩
   ·rw [want,if_pos (.inl (by rw [ws,hwi]))]
   refine aPlace6 s17 (by omega) _ fun y hy=>⟨_,rfl,fun hy0=>⟨fun _=>⟨fun _=>⟨rfl,kh17⟩,fun hne=>absurd ?_ hne⟩,fun t u h=>by cases h⟩,fun hy0=>?_⟩
   ·rw [want,if_pos (.inr (.inl ((mem hsN).1 (hy.1 hy0))))]
   refine aPlace6 s17 (by omega) _ fun y' hy'=>⟨_,rfl,fun hy0'=>⟨fun _=>⟨fun _=>⟨rfl,kh17⟩,fun hne=>absurd ?_ hne⟩,fun t u h=>by cases h⟩,fun hy0'=>⟨fun _=>⟨fun _=>⟨rfl,kh17⟩,fun hne=>absurd ?_ hne⟩,fun t u h=>by cases h⟩⟩
   ·rw [want,if_pos (.inr (.inr ((mem htN).1 (hy'.1 hy0'))))]
   ·rw [want,if_neg,if_neg (by omega),← wt,eA]
    rintro (h | h | h)
    ·exact hwi (by rw [← ws]; exact h)
    ·exact hy0 (hy.2 ((mem hsN).2 h))
    ·exact hy0' (hy'.2 ((mem htN).2 h))
end
end Eva
end
end Go.Proofs.YteffnclboadalaaGreatDoor
