/-
A part of the proof of TopShut: lemmas that the last text joins. No condition.
-/
import Derived.Test.YteffnclboadalaaGreatDoorPk
import Derived.Test.YteffnclboadalaaGreatDoorPe
import Derived.Test.YteffnclboadalaaGreatDoorW7
import Derived.Test.YteffnclboadalaaGreatDoorPi
import Derived.Test.YteffnclboadalaaGreatDoorPf
namespace Go.Proofs.YteffnclboadalaaGreatDoor
set_option linter.unusedVariables false
set_option linter.unusedSimpArgs false
set_option linter.unusedSectionVars false
set_option linter.unnecessarySimpa false
section
open Go Go.RowKit
def NetD.crB (N:NetD) (p:List (List Int)) (k a:Nat):Bool:=decide (cel p k (N.fr a)≠cel p k (N.to a))
namespace Eva
section
variable {h h':AH} {Fa F Fp:Nat→Prop} {g:Nat} {N:NetD} {p:List (List Int)} {Q:Value→AH→Prop} {A:Option Addr} {n K:Nat}
theorem most_le {nv k:Nat} (hp:PartOk nv p) (h1:1≤k) (hk:k≤p.length):most p k≤nv:=by
 have hr:p[k - 1]? = some (p[k - 1]'(by omega)):=List.getElem?_eq_getElem _
 have hm:=List.mem_of_getElem? hr
 have:=mostOf_le (row:=p[k - 1]'(by omega)) (n:=(nv:Int)) (by omega) (fun x hx=>(hp.inr _ hm x hx).2)
 unfold most
 rw [hr]
 simp only [Option.getD_some]
 omega
theorem free_cI:Free cI:=free_int _
theorem aEnds {k:Nat} {row:List Int} {F1:Nat→Prop} (G:GrA h Fa F g N) (hp:PartOk N.nv p) (hr:p[k - 1]? = some row) (hs:Sa cI F1 h A n K row) {a:Nat} (ha:a<N.na)
  (hK:Q (.tuple #[.int .i64 ((cel p k (N.fr a):Nat):Int),.int .i64 ((cel p k (N.to a):Nat):Int),.bool true]) h):WC Tryz.prog 313 [.pointer (some ⟨g,0,none⟩),.slice A n K,.int .i64 a] h Q:=by
 obtain ⟨hl,hx⟩:=part_row hp hr
 have hn:n=N.nv:=by rw [← hs.len]; exact hl
 have h1:=(NetD.fr_lt G.ok ha).1
 have h2:=(NetD.to_lt G.ok ha).1
 refine w_rim_ends (aFrom G ha ⟨_,rfl,aTo G ha ⟨_,rfl,fun h=>absurd h (by omega),fun _=>⟨fun h=>absurd h (by omega),fun _=>⟨fun h=>absurd h (by omega),fun _=>⟨fun h=>absurd h (by omega),fun _=>?_⟩⟩⟩⟩⟩)
 obtain ⟨b,o,x,hA,-,-,hy,e0⟩:=hs.int (k:=N.fr a) (by omega)
 obtain ⟨b',o',x',hA',-,-,hy',e0'⟩:=hs.int (k:=N.to a) (by omega)
 rw [hA] at hA'
 injection hA' with hA'
 injection hA' with hA1 hA2
 subst hA1 hA2
 obtain ⟨u,hu,u0,-⟩:=hx _ h1
 obtain ⟨v,hv,v0,-⟩:=hx _ h2
 rw [hy] at hu
 rw [hy'] at hv
 obtain rfl:=Option.some.inj hu
 obtain rfl:=Option.some.inj hv
 refine ⟨_,rfl,_,_,hA,by omega,_,e0,_,rfl,by omega,_,e0',?_⟩
 rw [cel_row hr hy,cel_row hr hy'] at hK
 rwa [Int.toNat_of_nonneg u0,Int.toNat_of_nonneg v0] at hK
theorem aCross (G:GrA h Fa F g N) (hp:PartOk N.nv p) (hs:Sa cRows Fp h A n K p) {k:Nat} (h1:1≤k) (h2:k≤n)
  (hK:∀ A' n' K' h',Sa cI (fun b=>h.next≤b) h' A' n' K' (ints (takeN (N.crB p k) N.na))→Nw h h'→Q (.slice A' n' K') h'):WC Tryz.prog 272 [.pointer (some ⟨g,0,none⟩),.agg #[.slice A n K],.int .i64 k] h Q:=by
 have hn:n≤6:=by rw [← hs.len]; exact hp.few
 have hna:=G.few.2
 refine w_rim_Cross fun h1' e1=>?_
 obtain ⟨k1,g1,z1⟩:=news e1
 have row:∀ {Q':Value→AH→Prop},(∀ A' n' K' row h',p[k - 1]? = some row→Sa cI Fp h' A' n' K' row→Nw h1' h'→Q' (.slice A' n' K') h')→WC Tryz.prog 41 [.agg #[.slice A n K],.int .i64 k] h1' Q':=fun {Q'} hQ=>by
  refine w_rim_row fun h2' e2=>?_
  obtain ⟨k2,g2,z2⟩:=news e2
  obtain ⟨b,o,A',n',K',row,rfl,hF,hb,hr,e0,s0⟩:=(hs.nw (k1.trans k2)).row (k:=k - 1) (by omega)
  exact ⟨fun h=>absurd h (by omega),fun _=>⟨_,_,_,ldC_of g2 rfl,fun h=>absurd h (by omega),fun _=>⟨_,_,_,ldC_of g2 rfl,_,wr_ok (by omega) (by omega),k - 1,by omega,_,_,rfl,by omega,_,_,_,e0,hQ _ _ _ _ _ hr s0 k2⟩⟩⟩
 refine ⟨_,_,_,ldN1 (ldC_of g1 rfl),row fun A3 n3 K3 rw_ h3 hr s3 k3=>⟨_,_,_,rfl,aArcs (G.nw (k1.trans k3)) ⟨_,rfl,?_⟩⟩⟩
 have k13:=k1.trans k3
 refine ⟨fun m A4 n4 K4 x h4=>∃ i:Nat,x=i∧i≤N.na∧m=N.na - i∧OwnP cI h4 (ownB A4) 3 A4 n4 K4 (ints (takeN (N.crB p k) i))∧(∀ z,ownB A4 z→h3.next≤z)∧Nw h3 h4,N.na,⟨0,rfl,Nat.zero_le _,rfl,OwnP.nil _ _ _ _,fun z hz=>hz.elim,Nw.refl _⟩,?_⟩
 rintro m A4 n4 K4 x h4 ⟨i,rfl,hi,hm,o4,lo4,k4⟩
 have z13:=k13.next
 refine ⟨fun hlt=>aEnds (G.nw (k13.trans k4)) hp hr (s3.nw k4) (by omega) ⟨_,_,_,rfl,fun _=>⟨fun he=>?_,fun hne=>?_⟩,fun h=>Bool.noConfusion h⟩,fun hge=>?_⟩
 ·have hcr:N.crB p k i=false:=by unfold NetD.crB; simp; omega
  exact ⟨_,(by rw [Int.natCast_succ]; exact wr_ok (by omega) (by omega):IntKind.i64.wrap ((i:Int)+1)=((i+1:Nat):Int)),N.na - (i+1),by omega,i+1,rfl,by omega,rfl,by rw [takeN_succ,hcr]; exact o4,lo4,k4⟩
 ·have hcr:N.crB p k i=true:=by unfold NetD.crB; simp; omega
  intro h6 e6
  obtain ⟨k6,g6,z6⟩:=news e6
  have hz:Sz cI (fun z=>z=h4.next) h6 (some ⟨h4.next,0,none⟩) 1 2 [(i:Int)]:=Sz.one g6 rfl (by omega) rfl rfl
  have hl4:=o4.len
  have hlt4:n4≤1000:=by
   rw [← hl4]
   have:=takeN_len (N.crB p k) i
   simp only [ints,List.length_map]
   omega
  obtain ⟨A',K',h7,y1,y2,y3,y4⟩:=app_row free_cI tyI8 (o4.nw k6) hz (by omega) (by omega)
  have z4:=k4.next
  refine ⟨A',n4+1,K',h7,y1,_,(by rw [Int.natCast_succ]; exact wr_ok (by omega) (by omega):IntKind.i64.wrap ((i:Int)+1)=((i+1:Nat):Int)),N.na - (i+1),by omega,i+1,rfl,by omega,rfl,?_,fun z hz=>(y4 z hz).elim (lo4 z) (fun h=>by omega),y3.is_nw (k4.trans k6) lo4⟩
  rw [takeN_succ,hcr,if_pos rfl]
  unfold ints at y2 ⊢
  rw [List.map_append]
  exact y2
 ·obtain rfl:i=N.na:=by omega
  exact hK A4 n4 K4 h4 (o4.sa.mono fun z hz _=>by have:=lo4 z hz; omega) (k13.trans k4)
end
end Eva
end
section
open Go Go.RowKit
theorem map_updS {α:Type} {f:Nat→α} {n k:Nat} (hk:k<n) (v:α):((List.range n).map f).set k v=(List.range n).map (upd f k v):=by
 apply List.ext_getElem?
 intro i
 rw [List.getElem?_set]
 by_cases e:k=i
 ·subst e
  simp [hk,upd]
 ·simp only [if_neg e,List.getElem?_map]
  by_cases hi:i<n
  ·simp [List.getElem?_range hi,upd,Ne.symm e]
  ·rw [List.getElem?_eq_none (by simpa using hi)]; rfl
namespace Eva
theorem rep_two (z:Value) (n:Nat):rep n [z,z]=List.replicate (n * 2) z:=by
 induction n with
 | zero=>rfl
 | succ n ih=>
  rw [Nat.succ_mul]
  show [z,z] ++ rep n [z,z]=_
  rw [ih]
  rfl
structure Slots (h:AH) (base b m:Nat) (t:TypeId) (L:Nat→List Nat):Prop where
 rows:∃ (A:Nat→Option Addr) (n K:Nat→Nat),Bk h b ((List.range m).map fun s=>Value.slice (A s) (n s) (K s)) t∧(∀ s,s<m→OwnP cI h (ownB (A s)) 3 (A s) (n s) (K s) (ints (L s)))∧(∀ s z,s<m→ownB (A s) z→base≤z)∧(∀ s s' z,s<m→s' < m→ownB (A s) z→ownB (A s') z→s=s')
 pos:b<base∧base≤h.next
section
variable {h h':AH} {base b m s:Nat} {t:TypeId} {L:Nat→List Nat}
theorem Slots.new (hb:Bk h b (List.replicate m (.slice none 0 0)) t) (hlt:b<h.next):Slots h h.next b m t (fun _=>[]):=by
 refine ⟨⟨fun _=>none,fun _=>0,fun _=>0,?_,fun s _=>OwnP.nil _ _ _ _,fun s z _ hz=>hz.elim,fun s s' z _ _ hz=>hz.elim⟩,hlt,Nat.le_refl _⟩
 rw [List.map_const',List.length_range]
 exact hb
theorem Slots.nw (S:Slots h base b m t L) (a:Nw h h'):Slots h' base b m t L:=by
 obtain ⟨⟨A,n,K,h1,h2,h3,h4⟩,p1,p2⟩:=S
 have:=a.next
 exact ⟨⟨A,n,K,a.bk (by omega) h1,fun s hs=>(h2 s hs).nw a,h3,h4⟩,p1,by omega⟩
theorem Slots.app (S:Slots h base b m t L) (hs:s<m) (x:Nat) (hlen:(L s).length≤100000) :
  ∃ A n K,ldC h b (0+s)=some (.slice A n K)∧∀ h1,h1=AH.new h (.cells [.int .i64 (x:Int)] 3 false)→∃ A' n' K' h2,lAppend Tryz.prog h1 (some (.slice 3)) (some (.slice 3)) (.slice A n K) (.slice (some ⟨h.next,0,none⟩) 1 2)=some (.slice A' n' K',h2) ∧
   ∃ h3,stC h2 b (0+s) [.slice A' n' K']=some h3∧Slots h3 base b m t (upd L s (L s ++ [x]))∧Mt (fun z=>z=b∨base≤z) h h3:=by
 obtain ⟨⟨A,n,K,g1,g2,g3,g4⟩,p1,p2⟩:=S
 refine ⟨A s,n s,K s,by rw [ldC_bk g1,Nat.zero_add]; simp [hs],fun h1 e1=>?_⟩
 obtain ⟨k1,w1,z1⟩:=news e1
 have hz:Sz cI (fun z=>z=h.next) h1 (some ⟨h.next,0,none⟩) 1 2 [(x:Int)]:=Sz.one w1 rfl (by omega) rfl rfl
 have hl:=(g2 s hs).len
 have hl':n s≤100000:=by rw [← hl]; simpa [ints] using hlen
 obtain ⟨A',K',h2,y1,y2,y3,y4⟩:=app_row free_cI tyI8 ((g2 s hs).nw k1) hz (by omega) (by omega)
 have z2:=y3.next
 have nb:∀ s',s' < m→¬ ownB (A s') b:=fun s' hs' ho=>by have:=g3 s' b hs' ho; omega
 have b2:=y3.bk (by omega) (nb s hs) (k1.bk (by omega) g1)
 obtain ⟨h3,s3,b3,z3,o3⟩:=st_one (v:=.slice A' (n s+1) K') b2 (o:=0+s) (by simpa using hs) rfl
 have m3:Mt (fun z=>z=b) h2 h3:=⟨by omega,fun z _ hn=>o3 z hn⟩
 have nA':∀ z,ownB A' z→z≠b∧base≤z:=fun z hz=>(y4 z hz).elim (fun h=>⟨fun e=>nb s hs (e ▸ h),g3 s z hs h⟩) (fun h=>⟨by omega,by omega⟩)
 refine ⟨A',n s+1,K',h2,y1,h3,s3,⟨⟨upd A s A',upd n s (n s+1),upd K s K',?_,fun s' hs'=>?_,fun s' z hs' hz=>?_,fun s' s'' z hs' hs'' h' h''=>?_⟩,p1,by omega⟩,⟨by omega,fun z hz hn=>(o3 z (fun e=>hn (.inl e))).trans ((y3.get z (by omega) (fun ho=>hn (.inr (g3 s z hs ho)))).trans (k1.get z hz))⟩⟩
 ·rw [Nat.zero_add,map_updS hs] at b3
  have e:(fun s_1=>Value.slice (upd A s A' s_1) (upd n s (n s+1) s_1) (upd K s K' s_1))=upd (fun s=>Value.slice (A s) (n s) (K s)) s (.slice A' (n s+1) K'):=by
   funext i
   unfold upd
   split <;> rfl
  rw [e]
  exact b3
 ·unfold upd
  by_cases e:s' = s
  ·subst e
   simp only [if_true]
   have:=y2.off m3 fun z hz _ e=>(nA' z hz).1 e
   unfold ints at this ⊢
   rw [List.map_append]
   exact this
  ·simp only [if_neg e]
   exact (((g2 s' hs').nw k1).off y3 fun z hz _ ho=>e (g4 s' s z hs' hs hz ho)).off m3 fun z hz _ e'=>nb s' hs' (e' ▸ hz)
 ·unfold upd at hz
  by_cases e:s' = s
  ·rw [if_pos e] at hz; exact (nA' z hz).2
  ·rw [if_neg e] at hz; exact g3 s' z hs' hz
 ·unfold upd at h' h''
  have cross:∀ {a:Nat},a<m→a≠s→ownB (A a) z→ownB A' z→False:=fun {a} ha hne h1' h2'=>(y4 z h2').elim (fun h=>hne (g4 a s z ha hs h1' h)) (fun h=>by have:=(g2 a ha).own h1'; omega)
  by_cases e:s' = s
  ·by_cases e':s'' = s
   ·omega
   ·rw [if_pos e] at h'; rw [if_neg e'] at h''
    exact (cross hs'' e' h'' h').elim
  ·by_cases e':s'' = s
   ·rw [if_neg e] at h'; rw [if_pos e'] at h''
    exact (cross hs' e h' h'').elim
   ·rw [if_neg e] at h'; rw [if_neg e'] at h''
    exact g4 s' s'' z hs' hs'' h' h''
theorem Slots.gates {k K:Nat} (S:Slots h base b (k * 2) t L):Sa Rc.gate (fun z=>z=b∨base≤z) h (some ⟨b,0,none⟩) k K ((List.range k).map fun c=>(ints (L (c * 2)),ints (L (c * 2+1)))):=by
 obtain ⟨⟨A,n,K',g1,g2,g3,g4⟩,p1,p2⟩:=S
 refine Sa.of_bk g1 (by simp) (.inl rfl) (by omega) fun c x hx=>?_
 have hc:c<k:=by have:=(List.getElem?_eq_some_iff.1 hx).1; simpa using this
 have hx':x=(ints (L (c * 2)),ints (L (c * 2+1))):=by simp [hc] at hx; exact hx.symm
 subst hx'
 refine ⟨A (c * 2),n (c * 2),K' (c * 2),A (c * 2+1),n (c * 2+1),K' (c * 2+1),?_,(g2 _ (by omega)).sa.mono fun z hz _=>.inr (g3 _ z (by omega) hz),(g2 _ (by omega)).sa.mono fun z hz _=>.inr (g3 _ z (by omega) hz)⟩
 apply List.ext_getElem?
 intro i
 show ((((List.range (k * 2)).map fun s=>Value.slice (A s) (n s) (K' s)).drop (c * 2)).take 2)[i]? = _
 rw [List.getElem?_take]
 by_cases hi:i<2
 ·rw [if_pos hi,List.getElem?_drop,List.getElem?_map,List.getElem?_range (by omega)]
  match i,hi with
  | 0,_=>rfl
  | 1,_=>rfl
 ·rw [if_neg hi,List.getElem?_eq_none (by simp; omega)]
end
end Eva
end
section
open Go Go.RowKit
namespace Eva
def tabs (f:Nat→List Value) (n:Nat):List Value:=(List.range n).flatMap f
section
variable {f:Nat→List Value} {n s k j:Nat}
theorem tabs_succ (f:Nat→List Value) (n:Nat):tabs f (n+1)=tabs f n ++ f n:=by
 unfold tabs
 rw [List.range_succ,List.flatMap_append]
 simp
theorem tabs_len (hf:∀ k,(f k).length=s):∀ n,(tabs f n).length=n * s
 | 0=>by simp [tabs]
 | n+1=>by rw [tabs_succ,List.length_append,tabs_len hf n,hf,Nat.succ_mul]
theorem tabs_congr {g:Nat→List Value}:∀ n,(∀ k,k<n→f k=g k)→tabs f n=tabs g n
 | 0,_=>rfl
 | n+1,h=>by rw [tabs_succ,tabs_succ,tabs_congr n fun k hk=>h k (by omega),h n (by omega)]
theorem tabs_put (hf:∀ k,(f k).length=s) {v:List Value} (hv:v.length=s):∀ n,k<n→(tabs f n).take (k * s) ++ v ++ (tabs f n).drop (k * s+s)=tabs (upd f k v) n
 | 0,h=>absurd h (by omega)
 | n+1,h=>by
  have hl:=tabs_len hf n
  rw [tabs_succ,tabs_succ]
  by_cases e:k=n
  ·subst e
   rw [List.take_append_of_le_length (by omega),List.take_of_length_le (by omega),List.drop_eq_nil_of_le (by rw [List.length_append,hf]; omega),List.append_nil]
   have:tabs (upd f k v) k=tabs f k:=tabs_congr k fun i hi=>by unfold upd; rw [if_neg (by omega)]
   rw [this]
   unfold upd
   rw [if_pos rfl]
  ·have hk:k<n:=by omega
   have hm:(k+1) * s≤n * s:=Nat.mul_le_mul_right _ hk
   rw [Nat.succ_mul] at hm
   rw [List.take_append_of_le_length (by omega),List.drop_append_of_le_length (by omega),← List.append_assoc,tabs_put hf hv n hk]
   have:upd f k v n=f n:=by unfold upd; rw [if_neg (by omega)]
   rw [this]
theorem tabs_set (hf:∀ k,(f k).length=s) (hj:j<s) (x:Value):∀ n,k<n→(tabs f n).set (k * s+j) x=tabs (upd f k ((f k).set j x)) n
 | 0,h=>absurd h (by omega)
 | n+1,h=>by
  have hl:=tabs_len hf n
  rw [tabs_succ,tabs_succ]
  by_cases e:k=n
  ·subst e
   rw [List.set_append_right _ _ (by omega),hl,Nat.add_sub_cancel_left]
   have:tabs (upd f k ((f k).set j x)) k=tabs f k:=tabs_congr k fun i hi=>by unfold upd; rw [if_neg (by omega)]
   rw [this]
   unfold upd
   rw [if_pos rfl]
  ·have hk:k<n:=by omega
   have hm:(k+1) * s≤n * s:=Nat.mul_le_mul_right _ hk
   rw [Nat.succ_mul] at hm
   rw [List.set_append_left _ _ (by omega),tabs_set hf hj x n hk]
   have:upd f k ((f k).set j x) n=f n:=by unfold upd; rw [if_neg (by omega)]
   rw [this]
theorem tabs_cut (hf:∀ k,(f k).length=s):∀ n,k<n→((tabs f n).drop (k * s)).take s=f k
 | 0,h=>absurd h (by omega)
 | n+1,h=>by
  have hl:=tabs_len hf n
  rw [tabs_succ]
  by_cases e:k=n
  ·subst e
   rw [List.drop_append_of_le_length (by omega),List.drop_eq_nil_of_le (by omega),List.nil_append,List.take_of_length_le (by rw [hf]; omega)]
  ·have hk:k<n:=by omega
   have hm:(k+1) * s≤n * s:=Nat.mul_le_mul_right _ hk
   rw [Nat.succ_mul] at hm
   rw [List.drop_append_of_le_length (by omega),List.take_append_of_le_length (by rw [List.length_drop]; omega),tabs_cut hf n hk]
theorem tabs_get (hf:∀ k,(f k).length=s) (hk:k<n) (hj:j<s):(tabs f n)[k * s+j]? = (f k)[j]?:=by
 have h1:=tabs_cut hf n hk
 rw [← h1,List.getElem?_take,if_pos hj,List.getElem?_drop]
theorem tabs_rep (l:List Value):∀ n,rep n l=tabs (fun _=>l) n
 | 0=>rfl
 | n+1=>by
  have e:∀ n,tabs (fun _=>l) (n+1)=l ++ tabs (fun _=>l) n:=fun n=>by
   induction n with
   | zero=>simp [tabs]
   | succ n ih=>rw [tabs_succ,ih,List.append_assoc,← tabs_succ,ih]
  rw [e]
  show l ++ rep n l=_
  rw [tabs_rep l n]
end
section
variable {h h1 h2:AH} {b:Nat} {t:TypeId} {f:Nat→List Value} {n s k j:Nat}
theorem st_tab (hb:Bk h b (tabs f n) t) (hf:∀ k,(f k).length=s) (hk:k<n) {v:List Value} (hv:v.length=s) (hfl:∀ u∈v,flat u=true) :
  ∃ h2,stC h b (0+k * s) v=some h2∧Bk h2 b (tabs (upd f k v) n) t∧h2.next=h.next∧∀ b',b'≠b→h2.get b' = h.get b':=by
 have hm:(k+1) * s≤n * s:=Nat.mul_le_mul_right _ hk
 rw [Nat.succ_mul] at hm
 refine ⟨_,stN hb (by rw [tabs_len hf,Nat.zero_add,hv]; exact hm) hfl,?_,rfl,fun b' hb'=>by rw [get_put,if_neg hb']⟩
 rw [Bk,get_put,if_pos rfl,Nat.zero_add,hv,tabs_put hf hv n hk]
theorem st_tab1 (hb:Bk h b (tabs f n) t) (hf:∀ k,(f k).length=s) (hk:k<n) (hj:j<s) {x:Value} (hfl:flat x=true) :
  ∃ h2,stC h b (0+k * s+j) [x]=some h2∧Bk h2 b (tabs (upd f k ((f k).set j x)) n) t∧h2.next=h.next∧∀ b',b'≠b→h2.get b' = h.get b':=by
 have hm:(k+1) * s≤n * s:=Nat.mul_le_mul_right _ hk
 rw [Nat.succ_mul] at hm
 obtain ⟨h2,s2,b2,z2,o2⟩:=st_one (v:=x) hb (o:=0+k * s+j) (by rw [tabs_len hf]; omega) hfl
 rw [Nat.zero_add,tabs_set hf hj x n hk] at b2
 exact ⟨h2,s2,b2,z2,o2⟩
theorem cloneG {α:Type} {r:Rc α} {F:Nat→Prop} {o n K bytes:Nat} {xs:List α} (hr:Free r) (hT:tyB Tryz.prog t r.size bytes=true) (hs:Sz r F h (some ⟨b,o,none⟩) n K xs) (hn:n * bytes<1000000) (hn':n<1000000) (e1:h1=AH.new h (.cells [] t false)) :
  ∃ A' K' h',lAppend Tryz.prog h1 (some (.slice t)) (some (.slice t)) (.slice (some ⟨h.next,0,none⟩) 0 0) (.slice (some ⟨b,o,none⟩) n K)=some (.slice A' n K',h')∧OwnP r h' (ownB A') t A' n K' xs∧Nw h h'∧(∀ z,ownB A' z→h.next≤z):=by
 obtain ⟨k1,g1,z1⟩:=news e1
 have hB:OwnP r h1 (ownB (some ⟨h.next,0,none⟩)) t (some ⟨h.next,0,none⟩) 0 (2 * 0) []:=OwnP.lit (xs:=[]) (n:=0) g1 rfl (by omega) rfl (by simp) (by simp) (by simp)
 obtain ⟨A',K',h',x1,x2,x3,x4⟩:=app_row hr hT hB (hs.nw k1) (by rw [Nat.zero_add]; omega) (by omega)
 rw [Nat.zero_add] at x1 x2
 rw [List.nil_append] at x2
 refine ⟨A',K',h',x1,x2,x3.is_nw k1 fun b hb=>?_,fun b hb=>?_⟩
 ·have:b=h.next:=hb
  omega
 ·rcases x4 b hb with h2 | h2
  ·have:b=h.next:=h2
   omega
  ·omega
end
section
variable {h:AH} {Q:Value→AH→Prop} {F:Nat→Prop} {A:Option Addr} {n K:Nat}
theorem aClone64 {xs:List Int} (hs:Sa cI F h A n K xs) (hn:n≤100000) (hK:∀ A' K' h',OwnP cI h' (ownB A') 2 A' n K' xs→Nw h h'→(∀ b,ownB A' b→h.next≤b)→Q (.slice A' n K') h'):WC Tryz.prog 217 [.slice A n K] h Q:=by
 refine w_slices_Clone_int64_int64 ⟨fun hA=>?_,fun hA=>?_⟩
 ·obtain ⟨h0,h1⟩:=hs.nil0 hA
  refine ⟨h0,h1,?_⟩
  subst hA h0 h1
  have hx:xs = []:=List.eq_nil_of_length_eq_zero hs.len
  subst hx
  exact hK none 0 h (OwnP.nil _ _ _ _) (Nw.refl _) (fun b hb=>hb.elim)
 ·obtain ⟨b,o,rfl⟩:=hs.some_ hA
  refine ⟨b,o,rfl,fun h1 e1=>?_⟩
  obtain ⟨A',K',h',x1,x2,x3,x4⟩:=cloneG (r:=cI) (bytes:=8) (t:=2) free_cI (by kernel_rfl) hs.z (by omega) (by omega) e1
  exact ⟨A',n,K',h',x1,hK _ _ _ x2 x3 x4⟩
theorem aCloneV {xs:List Tri} (hs:Sa cTri F h A n K xs) (hn:n≤4096) (hK:∀ A' K' h',OwnP cTri h' (ownB A') 186 A' n K' xs→Nw h h'→(∀ b,ownB A' b→h.next≤b)→Q (.slice A' n K') h'):WC Tryz.prog 218 [.slice A n K] h Q:=by
 refine w_slices_Clone_net_Vert_net_Vert ⟨fun hA=>?_,fun hA=>?_⟩
 ·obtain ⟨h0,h1⟩:=hs.nil0 hA
  refine ⟨h0,h1,?_⟩
  subst hA h0 h1
  have hx:xs = []:=List.eq_nil_of_length_eq_zero hs.len
  subst hx
  exact hK none 0 h (OwnP.nil _ _ _ _) (Nw.refl _) (fun b hb=>hb.elim)
 ·obtain ⟨b,o,rfl⟩:=hs.some_ hA
  refine ⟨b,o,rfl,fun h1 e1=>?_⟩
  obtain ⟨A',K',h',x1,x2,x3,x4⟩:=cloneG (r:=cTri) (bytes:=24) (t:=186) (free_tri _ _ _) (by kernel_rfl) hs.z (by omega) (by omega) e1
  exact ⟨A',n,K',h',x1,hK _ _ _ x2 x3 x4⟩
theorem aCloneA {xs:List Tri} (hs:Sa cTri F h A n K xs) (hn:n≤16384) (hK:∀ A' K' h',OwnP cTri h' (ownB A') 175 A' n K' xs→Nw h h'→(∀ b,ownB A' b→h.next≤b)→Q (.slice A' n K') h'):WC Tryz.prog 219 [.slice A n K] h Q:=by
 refine w_slices_Clone_net_Arc_net_Arc ⟨fun hA=>?_,fun hA=>?_⟩
 ·obtain ⟨h0,h1⟩:=hs.nil0 hA
  refine ⟨h0,h1,?_⟩
  subst hA h0 h1
  have hx:xs = []:=List.eq_nil_of_length_eq_zero hs.len
  subst hx
  exact hK none 0 h (OwnP.nil _ _ _ _) (Nw.refl _) (fun b hb=>hb.elim)
 ·obtain ⟨b,o,rfl⟩:=hs.some_ hA
  refine ⟨b,o,rfl,fun h1 e1=>?_⟩
  obtain ⟨A',K',h',x1,x2,x3,x4⟩:=cloneG (r:=cTri) (bytes:=24) (t:=175) (free_tri _ _ _) (by kernel_rfl) hs.z (by omega) (by omega) e1
  exact ⟨A',n,K',h',x1,hK _ _ _ x2 x3 x4⟩
end
end Eva
end
section
open Go Go.RowKit
namespace Eva
theorem wrS {i:Nat} (h:i≤1000000):IntKind.i64.wrap ((i:Int)+1)=((i+1:Nat):Int):=by rw [Int.natCast_succ]; exact wr_ok (by omega) (by omega)
section
variable {h h':AH} {F Fa Fv Ft:Nat→Prop} {Q:Value→AH→Prop} {A Av Aa At:Option Addr} {n K nv Kv na Ka nt Kt:Nat} {xs:List Int} {vs xa:List Tri} {ts:List Tab}
theorem aWeightB {c:Int} (hc:weightB c=true) (hK:Q (.bool true) h):WC Tryz.prog 153 [.int .i64 c] h Q:=by
 unfold weightB at hc
 have hc':=of_decide_eq_true hc
 exact w_cost_Weight ⟨fun _=>hK,fun h1=>⟨fun h2=>⟨fun _=>hK,fun h3=>absurd hc' (by omega)⟩,fun h2=>absurd hc' (by omega)⟩⟩
theorem aFar {x:Int} (hx:coordB x=true) (hK:Q (.bool false) h):WC Tryz.prog 268 [.int .i64 x] h Q:=by
 unfold coordB at hx
 have hx':=of_decide_eq_true hx
 exact w_net_far ⟨fun h=>absurd h (by omega),fun _=>⟨fun h=>absurd h (by omega),fun _=>hK⟩⟩
theorem aTurnCheck {a b:Int} (hs:Sz cI F h A n K xs) (ht:TableOk a b xs) (hK:∀ h',Nw h h'→Q .nilIface h'):WC Tryz.prog 220 [.agg #[.int .i64 a,.int .i64 b,.slice A n K]] h Q:=by
 obtain ⟨⟨a0,a1⟩,⟨b0,b1⟩,hl,hc⟩:=ht
 have hm:0≤a * b∧a * b≤16 * 16:=⟨Int.mul_nonneg a0 b0,Int.mul_le_mul a1 b1 b0 (by omega)⟩
 have hln:=hs.len
 refine w_turn_Check fun h1 e1=>?_
 obtain ⟨k1,g1,z1⟩:=news e1
 have hs1:=hs.nw k1
 refine ⟨a,ldC_of g1 rfl,b,ldC_of g1 rfl,w_turn_sides ⟨fun h=>absurd h (by omega),fun _=>⟨fun h=>absurd h (by omega),fun _=>⟨fun h=>absurd h (by omega),fun _=>⟨fun h=>absurd h (by omega),fun _=>⟨none,rfl,fun _=>⟨A,n,K,ldC_of g1 rfl,a,ldC_of g1 rfl,b,ldC_of g1 rfl,_,wr_ok (by omega) (by omega),fun _=>⟨A,n,K,ldC_of g1 rfl,?_⟩,fun h=>absurd (by omega) h⟩,fun t u h=>by cases h⟩⟩⟩⟩⟩⟩
 refine ⟨fun m x h2=>∃ i:Nat,x=i∧i≤n∧m=n - i∧h2=h1,n,⟨0,rfl,Nat.zero_le _,rfl,rfl⟩,?_⟩
 rintro m x h2 ⟨i,rfl,hi,hmi,rfl⟩
 refine ⟨fun hlt=>?_,fun hge=>hK _ k1⟩
 obtain ⟨b',o,y,hA,-,-,hy,e0⟩:=hs1.int (k:=i) (by omega)
 exact ⟨i,rfl,b',o,hA,by omega,_,e0,aWeightB (hc y (List.mem_of_getElem? hy)) ⟨_,rfl,fun _=>⟨_,wrS (by omega),n - (i+1),by omega,i+1,rfl,by omega,rfl,rfl⟩,fun h=>Bool.noConfusion h⟩⟩
end
end Eva
end
section
open Go Go.RowKit
namespace Eva
abbrev cTab:Rc Tab:=Rc.table
theorem ldN3' {h:AH} {b o:Nat} {u v w:Value} (h0:ldC h b o=some u) (h1:ldC h b (o+1)=some v) (h2:ldC h b (o+2)=some w):ldN h b o 3=some [u,v,w]:=
 ldN_of rfl (by omega) fun j x hj=>by
  match j,hj with
  | 0,hj=>obtain rfl:=Option.some.inj hj; exact h0
  | 1,hj=>obtain rfl:=Option.some.inj hj; exact h1
  | 2,hj=>obtain rfl:=Option.some.inj hj; exact h2
section
variable {h h':AH} {Fa Fv Ft:Nat→Prop} {Q:Value→AH→Prop} {Av Aa At:Option Addr} {nv Kv na Ka nt Kt:Nat} {vs xa:List Tri} {ts:List Tab}
theorem aMeet (sv:Sa cTri Fv h Av nv Kv vs) (sa:Sa cTri Fa h Aa na Ka xa) (st:Sa cTab Ft h At nt Kt ts) (ok:NetOk vs xa ts) (hK:∀ h',Nw h h'→Q .nilIface h') :
  WC Tryz.prog 270 [.agg #[.slice Av nv Kv,.slice Aa na Ka,.slice At nt Kt]] h Q:=by
 have lv:=sv.len
 have la:=sa.len
 have lt:=st.len
 have hnv:=ok.nv
 have hna:=ok.na
 refine w_net_meet fun h1 e1=>?_
 obtain ⟨k1,g1,z1⟩:=news e1
 refine ⟨_,_,_,ldC_of g1 rfl,by omega,fun h2 e2=>?_⟩
 obtain ⟨k2,g2,z2⟩:=news e2
 refine ⟨_,_,_,ldC_of (k2.bk (by omega) g1) rfl,by omega,fun h3 e3=>?_⟩
 obtain ⟨k3,g3,z3⟩:=news e3
 rw [rep_one] at g2 g3
 have k13:=(k1.trans k2).trans k3
 refine ⟨_,_,_,ldC_of ((k2.trans k3).bk (by omega) g1) rfl,fun m x h4=>∃ i:Nat,x=i∧i≤na∧m=na - i∧Bk h4 h1.next ((cntL toOf' xa nv i).map (Value.int .i64)) 3∧Bk h4 h2.next ((cntL frOf xa nv i).map (Value.int .i64)) 3∧Mt (fun z=>z=h1.next∨z=h2.next) h3 h4,na,⟨0,rfl,Nat.zero_le _,rfl,?_,?_,Mt.refl _ _⟩,?_⟩
 ·rw [cntL_zero,List.map_replicate]; exact k3.bk (by omega) g2
 ·rw [cntL_zero,List.map_replicate]; exact g3
 rintro m x h4 ⟨i,rfl,hi,hm,b4,c4,m4⟩
 have z4:=m4.next
 have k14:Nw h h4:=m4.is_nw k13 fun z hz=>by omega
 have g14:Bk h4 h.next [.slice Av nv Kv,.slice Aa na Ka,.slice At nt Kt] 180:=m4.bk (by omega) (by omega) ((k2.trans k3).bk (by omega) g1)
 refine ⟨fun hlt=>?_,fun hge=>?_⟩
 ·obtain ⟨b,o,x,y,z,hA,-,-,hx,e0,e1',e2'⟩:=(sa.nw k14).tri (k:=i) (by omega)
  obtain ⟨⟨a0,a1⟩,⟨a2,a3⟩,-⟩:=ok.arcs_ _ (List.mem_of_getElem? hx)
  simp only at a0 a1 a2 a3
  obtain ⟨u,rfl⟩:=Int.eq_ofNat_of_zero_le a0
  obtain ⟨v,rfl⟩:=Int.eq_ofNat_of_zero_le a2
  have hu:u<nv:=by omega
  have hv:v<nv:=by omega
  have c1:=cnt_le toOf' xa i v
  have c2:=cnt_le frOf xa i u
  refine ⟨i,rfl,b,o,hA,by omega,_,_,_,ldN3' e0 e1' e2',fun h5 e5=>?_⟩
  obtain ⟨h6,s6,k6,g6,z6⟩:=box_st (vs:=[.int .i64 (u:Int),.int .i64 (v:Int),.int .i64 z]) e5 rfl (by simp [flat])
  have b6:=k6.bk (by omega) b4
  obtain ⟨h7,s7,b7,z7,o7⟩:=st_one (v:=.int .i64 (((xa.take i).countP (fun a=>toOf' a == (v:Int)):Int)+1)) b6 (o:=0+v) (by simp [cntL_len]; omega) rfl
  have c7:=(o7 _ (by omega)).trans (k6.bk (by omega) c4)
  have g7:=(o7 _ (by omega)).trans g6
  obtain ⟨h8,s8,b8,z8,o8⟩:=st_one (v:=.int .i64 (((xa.take i).countP (fun a=>frOf a == (u:Int)):Int)+1)) c7 (o:=0+u) (by simp [cntL_len]; omega) rfl
  refine ⟨h6,s6,_,ldC_of g6 rfl,v,rfl,hv,(((xa.take i).countP (fun a=>toOf' a == (v:Int)):Nat):Int),?_,_,wr_ok (by omega) (by omega),hv,h7,s7,_,ldC_of g7 rfl,u,rfl,hu,(((xa.take i).countP (fun a=>frOf a == (u:Int)):Nat):Int),?_,_,wr_ok (by omega) (by omega),hu,h8,s8,_,wrS (by omega),na - (i+1),by omega,i+1,rfl,by omega,rfl,?_,?_,?_⟩
  ·rw [ldC_bk b6,Nat.zero_add,List.getElem?_map,cntL_get hv]; rfl
  ·rw [ldC_bk c7,Nat.zero_add,List.getElem?_map,cntL_get hu]; rfl
  ·rw [cntL_succ (f:=toOf') hx rfl hv,List.map_set]
   rw [Nat.zero_add] at b7
   exact (o8 _ (by omega)).trans b7
  ·rw [cntL_succ (f:=frOf) hx rfl hu,List.map_set]
   rw [Nat.zero_add] at b8
   exact b8
  ·exact ⟨by omega,fun z hz hn=>(o8 z (fun e=>hn (.inr e))).trans ((o7 z (fun e=>hn (.inl e))).trans ((k6.get z (by omega)).trans (m4.get z hz hn)))⟩
 ·obtain rfl:i=na:=by omega
  refine ⟨_,_,_,ldC_of g14 rfl,fun m x h9=>∃ j:Nat,x=j∧j≤nv∧m=nv - j∧Nw h4 h9,nv,⟨0,rfl,Nat.zero_le _,rfl,Nw.refl _⟩,?_⟩
  rintro m' x h9 ⟨j,rfl,hj,hm',k9⟩
  refine ⟨fun hlt=>?_,fun hge'=>hK h9 (k14.trans k9)⟩
  have kk:=k14.trans k9
  obtain ⟨b,o,x,y,z,hA,-,-,hx,e0,e1',e2'⟩:=(sv.nw kk).tri (k:=j) (by omega)
  obtain ⟨-,-,q0,q1⟩:=ok.verts_ _ (List.mem_of_getElem? hx)
  simp only at q0 q1
  obtain ⟨ty,rfl⟩:=Int.eq_ofNat_of_zero_le q0
  refine ⟨j,rfl,b,o,hA,by omega,_,_,_,ldN3' e0 e1' e2',fun h10 e10=>?_⟩
  obtain ⟨h11,s11,k11,g11,z11⟩:=box_st (vs:=[.int .i64 x,.int .i64 y,.int .i64 (ty:Int)]) e10 rfl (by simp [flat])
  obtain ⟨b',o',p,q,A',n',K',zs,hA',-,-,ht,f0,f1,f2,-⟩:=(st.nw (kk.trans k11)).table (k:=ty) (by omega)
  obtain ⟨d1,d2,d3,d4⟩:=ok.deg j _ _ hx ht
  simp only at d3 d4
  refine ⟨h11,s11,_,_,_,ldC_of ((k9.trans k11).bk (by omega) g14) rfl,_,ldC_of g11 rfl,ty,rfl,b',o',hA',by omega,_,_,_,_,_,ldN3' f0 f1 f2,fun h12 e12=>?_⟩
  obtain ⟨h13,s13,k13',g13,z13⟩:=box_st (vs:=[.int .i64 p,.int .i64 q,.slice A' n' K']) e12 rfl (by simp [flat])
  have z9:=k9.next
  have kb:=(k9.trans k11).trans k13'
  have hin:xa.take i=xa:=List.take_of_length_le (by omega)
  have r1:ldC h13 h1.next (0+j)=some (.int .i64 ((xa.countP (fun a=>toOf' a == (j:Int)):Nat):Int)):=by
   rw [ldC_bk (kb.bk (by omega) b4),Nat.zero_add,List.getElem?_map,cntL_get (by omega),hin]; rfl
  have r2:ldC h13 h2.next (0+j)=some (.int .i64 ((xa.countP (fun a=>frOf a == (j:Int)):Nat):Int)):=by
   rw [ldC_bk (kb.bk (by omega) c4),Nat.zero_add,List.getElem?_map,cntL_get (by omega),hin]; rfl
  exact ⟨h13,s13,by omega,_,r1,fun h=>absurd h (by omega),fun _=>⟨by omega,_,r2,fun h=>absurd h (by omega),fun _=>⟨p,ldC_of g13 rfl,by omega,_,r1,fun _=>⟨q,ldC_of g13 rfl,by omega,_,r2,fun _=>⟨_,wrS (by omega),nv - (j+1),by omega,j+1,rfl,by omega,rfl,kb⟩,fun h=>absurd d4 h⟩,fun h=>absurd d3 h⟩⟩⟩
theorem aVertex {x:Int} (hx:0≤x∧x<nv) (hK:∀ h',Nw h h'→Q (.bool true) h'):WC Tryz.prog 269 [.agg #[.slice Av nv Kv,.slice Aa na Ka,.slice At nt Kt],.int .i64 x] h Q:=by
 refine w_net_vertex fun h1 e1=>?_
 obtain ⟨k1,g1,z1⟩:=news e1
 exact ⟨fun _=>⟨_,_,_,ldC_of g1 rfl,fun _=>hK _ k1,fun h=>absurd hx.2 h⟩,fun h=>absurd hx.1 h⟩
theorem aNetCheck (sv:Sa cTri Fv h Av nv Kv vs) (sa:Sa cTri Fa h Aa na Ka xa) (st:Sa cTab Ft h At nt Kt ts) (ok:NetOk vs xa ts) (hK:∀ h',Nw h h'→Q .nilIface h') :
  WC Tryz.prog 211 [.agg #[.slice Av nv Kv,.slice Aa na Ka,.slice At nt Kt]] h Q:=by
 have lv:=sv.len
 have la:=sa.len
 have lt:=st.len
 have hnv:=ok.nv
 have hna:=ok.na
 have hnt:=ok.nt
 refine w_net_Check fun h1 e1=>?_
 obtain ⟨k1,g1,z1⟩:=news e1
 have bx:∀ {h'},Nw h1 h'→Bk h' h.next [.slice Av nv Kv,.slice Aa na Ka,.slice At nt Kt] 180:=fun a=>a.bk (by omega) g1
 have bN:∀ {h'},Nw h1 h'→ldN h' h.next 0 3=some [.slice Av nv Kv,.slice Aa na Ka,.slice At nt Kt]:=fun a=>ldN3' (ldC_of (bx a) rfl) (ldC_of (bx a) rfl) (ldC_of (bx a) rfl)
 refine ⟨_,_,_,ldC_of g1 rfl,fun h=>absurd h (by omega),fun _=>⟨_,_,_,ldC_of g1 rfl,fun h=>absurd h (by omega),fun _=>⟨_,_,_,ldC_of g1 rfl,fun h=>absurd h (by omega),fun _=>⟨_,_,_,ldC_of g1 rfl,fun m x h5=>∃ i:Nat,x=i∧i≤nt∧m=nt - i∧Nw h1 h5,nt,⟨0,rfl,Nat.zero_le _,rfl,Nw.refl _⟩,?_⟩⟩⟩⟩
 rintro m x h5 ⟨i,rfl,hi,hm,k5⟩
 refine ⟨fun hlt=>?_,fun hge=>?_⟩
 ·obtain ⟨b',o',p,q,A',n',K',zs,hA',-,-,ht,f0,f1,f2,sz⟩:=(st.nw (k1.trans k5)).table (k:=i) (by omega)
  refine ⟨i,rfl,b',o',hA',by omega,_,_,_,_,_,ldN3' f0 f1 f2,fun h6 e6=>?_⟩
  obtain ⟨h7,s7,k7,g7,z7⟩:=box_st (vs:=[.int .i64 p,.int .i64 q,.slice A' n' K']) e6 rfl (by simp [flat])
  exact ⟨h7,s7,_,_,_,_,_,ldN3' (ldC_of g7 rfl) (ldC_of g7 rfl) (ldC_of g7 rfl),aTurnCheck (sz.nw k7).z (ok.types_ _ (List.mem_of_getElem? ht)) fun h8 k8=>⟨none,rfl,fun _=>⟨_,wrS (by omega),nt - (i+1),by omega,i+1,rfl,by omega,rfl,(k5.trans k7).trans k8⟩,fun t u h=>by cases h⟩⟩
 ·refine ⟨_,_,_,ldC_of (bx k5) rfl,fun m x h10=>∃ j:Nat,x=j∧j≤nv∧m=nv - j∧Nw h1 h10,nv,⟨0,rfl,Nat.zero_le _,rfl,k5⟩,?_⟩
  rintro m' x h10 ⟨j,rfl,hj,hm',k10⟩
  refine ⟨fun hlt=>?_,fun hge'=>?_⟩
  ·obtain ⟨b,o,x,y,z,hA,-,-,hx,e0,e1',e2'⟩:=(sv.nw (k1.trans k10)).tri (k:=j) (by omega)
   obtain ⟨q2,q3,q0,q1⟩:=ok.verts_ _ (List.mem_of_getElem? hx)
   simp only at q0 q1 q2 q3
   refine ⟨j,rfl,b,o,hA,by omega,_,_,_,ldN3' e0 e1' e2',fun h11 e11=>?_⟩
   obtain ⟨h12,s12,k12,g12,z12⟩:=box_st (vs:=[.int .i64 x,.int .i64 y,.int .i64 z]) e11 rfl (by simp [flat])
   exact ⟨h12,s12,x,ldC_of g12 rfl,aFar q2 ⟨_,rfl,fun h=>Bool.noConfusion h,fun _=>⟨y,ldC_of g12 rfl,aFar q3 ⟨_,rfl,fun h=>Bool.noConfusion h,fun _=>⟨z,ldC_of g12 rfl,fun h=>absurd h (by omega),fun _=>⟨z,ldC_of g12 rfl,_,_,_,ldC_of (bx (k10.trans k12)) rfl,fun h=>absurd h (by omega),fun _=>⟨_,wrS (by omega),nv - (j+1),by omega,j+1,rfl,by omega,rfl,k10.trans k12⟩⟩⟩⟩⟩⟩⟩
  ·refine ⟨_,_,_,ldC_of (bx k10) rfl,fun m x h19=>∃ j:Nat,x=j∧j≤na∧m=na - j∧Nw h1 h19,na,⟨0,rfl,Nat.zero_le _,rfl,k10⟩,?_⟩
   rintro m3 x h19 ⟨l,rfl,hl,hm3,k19⟩
   refine ⟨fun hlt=>?_,fun hge3=>?_⟩
   ·obtain ⟨b,o,x,y,z,hA,-,-,hx,e0,e1',e2'⟩:=(sa.nw (k1.trans k19)).tri (k:=l) (by omega)
    obtain ⟨a01,a23,aw⟩:=ok.arcs_ _ (List.mem_of_getElem? hx)
    simp only at a01 a23 aw
    refine ⟨l,rfl,b,o,hA,by omega,_,_,_,ldN3' e0 e1' e2',fun h20 e20=>?_⟩
    obtain ⟨h21,s21,k21,g21,z21⟩:=box_st (vs:=[.int .i64 x,.int .i64 y,.int .i64 z]) e20 rfl (by simp [flat])
    exact ⟨h21,s21,_,_,_,_,_,_,_,_,_,bN (k19.trans k21),x,ldC_of g21 rfl,aVertex (by omega) fun h22 k22=>⟨_,rfl,fun _=>⟨_,_,_,_,_,_,_,_,_,bN ((k19.trans k21).trans k22),y,ldC_of (k22.bk (by omega) g21) rfl,aVertex (by omega) fun h23 k23=>⟨_,rfl,fun _=>⟨z,ldC_of ((k22.trans k23).bk (by omega) g21) rfl,aWeightB aw ⟨_,rfl,fun _=>⟨_,wrS (by omega),na - (l+1),by omega,l+1,rfl,by omega,rfl,((k19.trans k21).trans k22).trans k23⟩,fun h=>Bool.noConfusion h⟩⟩,fun h=>Bool.noConfusion h⟩⟩,fun h=>Bool.noConfusion h⟩⟩
   ·have kk:=k1.trans k19
    exact ⟨_,_,_,_,_,_,_,_,_,bN k19,aMeet (sv.nw kk) (sa.nw kk) (st.nw kk) ok fun h28 k28=>⟨none,rfl,hK _ (kk.trans k28)⟩⟩
end
end Eva
end
section
open Go Go.RowKit
namespace Eva
section
variable {h h':AH} {Fa Fv Ft:Nat→Prop} {Q:Value→AH→Prop} {Av Aa At:Option Addr} {nv Kv na Ka nt Kt:Nat} {vs xa:List Tri} {ts:List Tab}
theorem tabN_len {k:Nat} {p q:Int} {A:Option Addr} {n K:Nat} {f:Nat→List Value} (hf:∀ k,(f k).length=3):∀ j,(upd f k [.int .i64 p,.int .i64 q,.slice A n K] j).length=3:=fun j=>by
 unfold upd
 split
 ·rfl
 ·exact hf j
theorem aGClone (sv:Sa cTri Fv h Av nv Kv vs) (sa:Sa cTri Fa h Aa na Ka xa) (st:Sa cTab Ft h At nt Kt ts) (ok:NetOk vs xa ts)
  (hK:∀ D3 A1 K1 A2 K2 A3 K3 h',Sa cTri (fun z=>h.next≤z∧¬ ownB A2 z∧¬ D3 z) h' A1 nv K1 vs→OwnP cTri h' (ownB A2) 175 A2 na K2 xa→OwnP cTab h' D3 188 A3 nt K3 ts→(∀ z,ownB A2 z→h.next≤z∧¬ D3 z)→(∀ z,D3 z→h.next≤z)→Nw h h'→Q (.agg #[.slice A1 nv K1,.slice A2 na K2,.slice A3 nt K3]) h') :
  WC Tryz.prog 151 [.agg #[.slice Av nv Kv,.slice Aa na Ka,.slice At nt Kt]] h Q:=by
 have lv:=sv.len
 have la:=sa.len
 have lt:=st.len
 have hnv:=ok.nv
 have hna:=ok.na
 have hnt:=ok.nt
 have st':Sa cTab (fun z=>z<h.next) h At nt Kt ts:=st.mono fun z _ hz=>hz
 have sv':Sa cTri (fun z=>z<h.next) h Av nv Kv vs:=sv.mono fun z _ hz=>hz
 have sa':Sa cTri (fun z=>z<h.next) h Aa na Ka xa:=sa.mono fun z _ hz=>hz
 refine w_graph_clone fun h1 e1 h2 e2=>?_
 obtain ⟨k1,g1,z1⟩:=news e1
 obtain ⟨k2,g2,z2⟩:=news e2
 refine ⟨_,_,_,ldC_of (k2.bk (by omega) g1) rfl,by omega,fun h3 e3=>?_⟩
 obtain ⟨k3,g3,z3⟩:=news e3
 rw [tabs_rep] at g3
 have k13:=(k1.trans k2).trans k3
 refine ⟨_,_,_,ldC_of ((k2.trans k3).bk (by omega) g1) rfl,fun m x h4=>∃ (i:Nat) (f:Nat→List Value),x=i∧i≤nt∧m=nt - i∧(∀ k,(f k).length=3)∧Bk h4 h2.next (tabs f nt) 188∧(∀ k x,k<i→ts[k]? = some x→cTab.rel (fun z=>h3.next≤z) h4 (f k) x)∧Mt (fun z=>z=h2.next) h3 h4,nt,⟨0,_,rfl,Nat.zero_le _,rfl,fun _=>rfl,g3,fun k x hk=>absurd hk (by omega),Mt.refl _ _⟩,?_⟩
 rintro m x h4 ⟨i,f,rfl,hi,hm,hf,b4,r4,m4⟩
 have z4:=m4.next
 have k14:Nw h h4:=m4.is_nw k13 fun z hz=>by omega
 have g14:Bk h4 h.next [.slice Av nv Kv,.slice Aa na Ka,.slice At nt Kt] 180:=m4.bk (by omega) (by omega) ((k2.trans k3).bk (by omega) g1)
 have g24:Bk h4 h1.next [.slice none 0 0,.slice none 0 0,.slice none 0 0] 180:=m4.bk (by omega) (by omega) (k3.bk (by omega) g2)
 refine ⟨fun hlt=>?_,fun hge=>?_⟩
 ·obtain ⟨b',o',p,q,A',n',K',zs,hA',-,-,ht,f0,f1,f2,sz⟩:=(st'.nw k14).table (k:=i) (by omega)
  have tok:=ok.types_ _ (List.mem_of_getElem? ht)
  have hzl:=sz.len
  have hm16:0≤p * q∧p * q≤16 * 16:=⟨Int.mul_nonneg tok.ins_.1 tok.outs_.1,Int.mul_le_mul tok.ins_.2 tok.outs_.2 tok.outs_.1 (by omega)⟩
  have htl:(zs.length:Int)=p * q:=tok.len
  refine ⟨i,rfl,b',o',hA',by omega,_,_,_,_,_,ldN3' f0 f1 f2,fun h5 e5=>?_⟩
  obtain ⟨h6,s6,k6,g6,z6⟩:=box_st (vs:=[.int .i64 p,.int .i64 q,.slice A' n' K']) e5 rfl (by simp [flat])
  obtain ⟨h7,s7,b7,z7,o7⟩:=st_tab (k6.bk (by omega) b4) hf (k:=i) (by omega) (v:=[.int .i64 p,.int .i64 q,.slice A' n' K']) rfl (by simp [flat])
  have g7:=(o7 _ (by omega)).trans g6
  have m7:Mt (fun z=>z=h2.next) h6 h7:=⟨by omega,fun z _ hn=>o7 z hn⟩
  have hf7:=tabN_len (k:=i) (p:=p) (q:=q) (A:=A') (n:=n') (K:=K') hf
  refine ⟨h6,s6,_,_,_,_,_,ldN3' (ldC_of g6 rfl) (ldC_of g6 rfl) (ldC_of g6 rfl),by omega,h7,s7,_,_,_,ldC_of g7 rfl,aClone64 ((sz.nw k6).off m7 fun z hz e=>by omega) (by omega) fun A9 K9 h8 o8 k8 lo8=>?_⟩
  obtain ⟨h9,s9,b9,z9,o9⟩:=st_tab1 (k8.bk (by omega) b7) hf7 (k:=i) (j:=2) (by omega) (by omega) (x:=.slice A9 n' K9) rfl
  have m9:Mt (fun z=>z=h2.next) h8 h9:=⟨by omega,fun z _ hn=>o9 z hn⟩
  have z8:=k8.next
  have m49:Mt (fun z=>z=h2.next) h4 h9:=(((Mt.of k6).then m7).nw k8).then m9
  refine ⟨A9,n',K9,rfl,by omega,h9,s9,_,wrS (by omega),nt - (i+1),by omega,i+1,_,rfl,by omega,rfl,?_,b9,fun k x hk hx=>?_,m4.then m49⟩
  ·intro j
   unfold upd
   split
   ·rw [if_pos rfl]; rfl
   ·exact hf j
  ·by_cases e:k=i
   ·subst e
    obtain rfl:=Option.some.inj (ht.symm.trans hx)
    refine ⟨A9,n',K9,?_,(o8.off m9 fun z hz _ e=>by have:=lo8 z hz; omega).sa.mono fun z hz _=>by have:=lo8 z hz; omega⟩
    unfold upd
    simp
   ·have h9':=cTab.keep (h':=h9) (fun z (hz:h3.next≤z) hlt=>m49.get z hlt (by omega)) m49.next (r4 k x (by omega) hx)
    have e1:∀ (v:List Value) (g:Nat→List Value),upd g i v k=g k:=fun v g=>by unfold upd; rw [if_neg e]
    rw [e1,e1]
    exact h9'
 ·obtain rfl:i=nt:=by omega
  refine ⟨_,_,_,ldC_of g14 rfl,_,_,_,ldC_of g14 rfl,aCloneV (sv'.nw k14) (by omega) fun A12 K12 h10 o10 k10 lo10=>⟨_,_,_,rfl,ldC_of (k10.bk (by omega) g14) rfl,sa.eqok,aCloneA (sa'.nw (k14.trans k10)) (by omega) fun A13 K13 h11 o11 k11 lo11=>⟨_,_,_,rfl,?_⟩⟩⟩
  have z10:=k10.next
  have z11:=k11.next
  have kk:=k10.trans k11
  obtain ⟨h12,s12,b12,z12,q12⟩:=st_all (vs:=[.slice A12 nv K12,.slice A13 na K13,.slice (some ⟨h2.next,0,none⟩) i (cx i)]) (kk.bk (by omega) g24) rfl (by simp [flat])
  have m12:Mt (fun z=>z=h1.next) h11 h12:=⟨by omega,fun z _ hn=>q12 z hn⟩
  refine ⟨h12,s12,_,_,_,_,_,_,_,_,_,ldN3' (ldC_of b12 rfl) (ldC_of b12 rfl) (ldC_of b12 rfl),hK (fun z=>z=h2.next∨(h3.next≤z∧z<h4.next)) _ _ _ _ _ _ h12 ?_ ?_ ?_ (fun z hz=>by have:=lo11 z hz; omega) (fun z hz=>by omega) (m12.is_nw (k14.trans kk) fun z hz=>by omega)⟩
  ·refine ((((o10.sa.mono fun z hz hlt=>(⟨lo10 z hz,hlt⟩:h4.next≤z∧z<h10.next)).nw k11).off m12 fun z hz e=>by omega)).mono fun z hz _=>⟨by omega,fun ho=>by have:=lo11 z ho; omega,fun hd=>by omega⟩
  ·exact o11.off m12 fun z hz _ e=>by have:=lo11 z hz; omega
  ·have hrel:∀ k x,k<i→ts[k]? = some x→cTab.rel (fun z=>(z=h2.next∨(h3.next≤z∧z<h4.next))∧z≠h2.next) h12 (f k) x:=fun k x hk hx=>by
    have r1:=cTab.mono (G:=fun z=>h3.next≤z∧z<h4.next) (fun z (hz:h3.next≤z) hlt=>⟨hz,hlt⟩) (r4 k x hk hx)
    have m412:Mt (fun z=>z=h1.next) h4 h12:=(Mt.of kk).then m12
    have r2:=cTab.keep (h':=h12) (fun z (hz:h3.next≤z∧z<h4.next) hlt=>m412.get z hlt (by omega)) m412.next r1
    exact cTab.mono (fun z (hz:h3.next≤z∧z<h4.next) _=>⟨.inr hz,by omega⟩) r2
   refine OwnP.lit (m12.bk (by omega) (by omega) (kk.bk (by omega) b4)) (.inl rfl) (by omega) lt (by rw [tabs_len hf]; rfl) (fun u hu=>?_) fun k x hx=>?_
   ·obtain ⟨k,hk,hu⟩:=List.mem_flatMap.1 hu
    have hk':k<i:=by simpa using hk
    have hx:ts[k]? = some (ts[k]'(by omega)):=List.getElem?_eq_getElem _
    exact cTab.flat (hrel k _ hk' hx) u hu
   have hk:k<i:=by have:=(List.getElem?_eq_some_iff.1 hx).1; omega
   show cTab.rel _ h12 (((tabs f i).drop (k * 3)).take 3) x
   rw [tabs_cut hf i hk]
   exact hrel k x hk hx
end
end Eva
end
section
open Go Go.RowKit
namespace Eva
structure SlotW (h:AH) (W:Nat→Prop) (b m:Nat) (t:TypeId) (L:Nat→List Nat):Prop where
 rows:∃ (A:Nat→Option Addr) (K:Nat→Nat),Bk h b ((List.range m).map fun s=>Value.slice (A s) (L s).length (K s)) t∧(∀ s,s<m→OwnP cI h (ownB (A s)) 3 (A s) (L s).length (K s) (ints (L s)))∧(∀ s z,s<m→ownB (A s) z→W z)∧(∀ s s' z,s<m→s' < m→ownB (A s) z→ownB (A s') z→s=s')
 pos:b<h.next∧∀ z,W z→z≠b∧z<h.next
section
variable {h h':AH} {b m s:Nat} {W:Nat→Prop} {t:TypeId} {L:Nat→List Nat}
theorem SlotW.new (hb:Bk h b (List.replicate m (.slice none 0 0)) t) (hlt:b<h.next):SlotW h (fun _=>False) b m t (fun _=>[]):=by
 refine ⟨⟨fun _=>none,fun _=>0,?_,fun s _=>OwnP.nil _ _ _ _,fun s z _ hz=>hz.elim,fun s s' z _ _ hz=>hz.elim⟩,hlt,fun z hz=>hz.elim⟩
 show Bk h b ((List.range m).map fun _=>Value.slice none 0 0) t
 rw [List.map_const',List.length_range]
 exact hb
theorem SlotW.off (S:SlotW h W b m t L) {M:Nat→Prop} (a:Mt M h h') (hb:¬ M b) (hW:∀ z,W z→¬ M z):SlotW h' W b m t L:=by
 obtain ⟨⟨A,K,h1,h2,h3,h4⟩,p1,p2⟩:=S
 have:=a.next
 exact ⟨⟨A,K,a.bk (by omega) hb h1,fun s hs=>(h2 s hs).off a fun z hz _=>hW z (h3 s z hs hz),h3,h4⟩,by omega,fun z hz=>⟨(p2 z hz).1,by have:=(p2 z hz).2; omega⟩⟩
theorem SlotW.nw (S:SlotW h W b m t L) (a:Nw h h'):SlotW h' W b m t L:=S.off (M:=fun _=>False) (.of a) (fun h=>h) (fun _ _ h=>h)
theorem SlotW.get (S:SlotW h W b m t L) (hs:s<m):∃ A K,ldC h b (0+s)=some (.slice A (L s).length K):=by
 obtain ⟨⟨A,K,h1,h2,h3,h4⟩,p1,p2⟩:=S
 exact ⟨A s,K s,by rw [ldC_bk h1,Nat.zero_add]; simp [hs]⟩
theorem SlotW.app (S:SlotW h W b m t L) (hs:s<m) (x:Nat) (hlen:(L s).length≤100000) :
  ∃ A K,ldC h b (0+s)=some (.slice A (L s).length K)∧∀ h1,h1=AH.new h (.cells [.int .i64 (x:Int)] 3 false)→∃ A' n' K' h2,lAppend Tryz.prog h1 (some (.slice 3)) (some (.slice 3)) (.slice A (L s).length K) (.slice (some ⟨h.next,0,none⟩) 1 2)=some (.slice A' n' K',h2)∧Mt W h h2 ∧
   ∃ h3,stC h2 b (0+s) [.slice A' n' K']=some h3∧SlotW h3 (fun z=>W z∨(h.next≤z∧z<h3.next)) b m t (upd L s (L s ++ [x]))∧Mt (fun z=>z=b∨W z) h h3:=by
 obtain ⟨⟨A,K,g1,g2,g3,g4⟩,p1,p2⟩:=S
 refine ⟨A s,K s,by rw [ldC_bk g1,Nat.zero_add]; simp [hs],fun h1 e1=>?_⟩
 obtain ⟨k1,w1,z1⟩:=news e1
 have hz:Sz cI (fun z=>z=h.next) h1 (some ⟨h.next,0,none⟩) 1 2 [(x:Int)]:=Sz.one w1 rfl (by omega) rfl rfl
 obtain ⟨A',K',h2,y1,y2,y3,y4⟩:=app_row free_cI tyI8 ((g2 s hs).nw k1) hz (by omega) (by omega)
 have z2:=y3.next
 have nb:∀ s',s' < m→¬ ownB (A s') b:=fun s' hs' ho=>(p2 b (g3 s' b hs' ho)).1 rfl
 have b2:=y3.bk (by omega) (nb s hs) (k1.bk (by omega) g1)
 obtain ⟨h3,s3,b3,z3,o3⟩:=st_one (v:=.slice A' ((L s).length+1) K') b2 (o:=0+s) (by simpa using hs) rfl
 have m3:Mt (fun z=>z=b) h2 h3:=⟨by omega,fun z _ hn=>o3 z hn⟩
 have nA':∀ z,ownB A' z→z≠b∧(W z∨(h.next≤z∧z<h3.next)):=fun z hz=>(y4 z hz).elim (fun h=>⟨fun e=>nb s hs (e ▸ h),.inl (g3 s z hs h)⟩) (fun h=>⟨by omega,.inr (by omega)⟩)
 have m02:Mt W h h2:=((Mt.of k1).then y3).mono fun z hz hlt=>g3 s z hs hz
 refine ⟨A',(L s).length+1,K',h2,y1,m02,h3,s3,⟨⟨upd A s A',upd K s K',?_,fun s' hs'=>?_,fun s' z hs' hz=>?_,fun s' s'' z hs' hs'' h' h''=>?_⟩,by omega,fun z hz=>hz.elim (fun h=>⟨(p2 z h).1,by have:=(p2 z h).2; omega⟩) (fun h=>⟨by omega,h.2⟩)⟩,⟨by omega,fun z hz hn=>(o3 z (fun e=>hn (.inl e))).trans (m02.get z hz fun ho=>hn (.inr ho))⟩⟩
 ·rw [Nat.zero_add,map_updS hs] at b3
  have e:(fun s_1=>Value.slice (upd A s A' s_1) (upd L s (L s ++ [x]) s_1).length (upd K s K' s_1))=upd (fun s=>Value.slice (A s) (L s).length (K s)) s (.slice A' ((L s).length+1) K'):=by
   funext i
   unfold upd
   split
   ·rw [List.length_append]; rfl
   ·rfl
  rw [e]
  exact b3
 ·unfold upd
  by_cases e:s' = s
  ·subst e
   simp only [if_true]
   have:=y2.off m3 fun z hz _ e=>(nA' z hz).1 e
   unfold ints at this ⊢
   rw [List.map_append,List.length_append]
   exact this
  ·simp only [if_neg e]
   exact (((g2 s' hs').nw k1).off y3 fun z hz _ ho=>e (g4 s' s z hs' hs hz ho)).off m3 fun z hz _ e'=>nb s' hs' (e' ▸ hz)
 ·unfold upd at hz
  by_cases e:s' = s
  ·rw [if_pos e] at hz; exact (nA' z hz).2
  ·rw [if_neg e] at hz; exact .inl (g3 s' z hs' hz)
 ·unfold upd at h' h''
  have cross:∀ {a:Nat},a<m→a≠s→ownB (A a) z→ownB A' z→False:=fun {a} ha hne h1' h2'=>(y4 z h2').elim (fun h=>hne (g4 a s z ha hs h1' h)) (fun h=>by have:=(g2 a ha).own h1'; omega)
  by_cases e:s' = s
  ·by_cases e':s'' = s
   ·omega
   ·rw [if_pos e] at h'; rw [if_neg e'] at h''
    exact (cross hs'' e' h'' h').elim
  ·by_cases e':s'' = s
   ·rw [if_neg e] at h'; rw [if_pos e'] at h''
    exact (cross hs' e h' h'').elim
   ·rw [if_neg e] at h'; rw [if_neg e'] at h''
    exact g4 s' s'' z hs' hs'' h' h''
theorem SlotW.sa (S:SlotW h W b m t L) (K:Nat):Sa cRows (fun z=>z=b∨W z) h (some ⟨b,0,none⟩) m K ((List.range m).map fun s=>ints (L s)):=by
 obtain ⟨⟨A,K',g1,g2,g3,g4⟩,p1,p2⟩:=S
 refine Sa.of_bk g1 (by simp) (.inl rfl) p1 fun c x hx=>?_
 have hc:c<m:=by have:=(List.getElem?_eq_some_iff.1 hx).1; simpa using this
 have hx':x=ints (L c):=by simp [hc] at hx; exact hx.symm
 subst hx'
 refine ⟨A c,(L c).length,K' c,?_,(g2 c hc).sa.mono fun z hz _=>.inr (g3 c z hc hz)⟩
 show ((((List.range m).map fun s=>Value.slice (A s) (L s).length (K' s)).drop (c * 1)).take 1)=_
 rw [Nat.mul_one]
 exact take_one' (by rw [List.getElem?_map,List.getElem?_range hc]; rfl)
end
end Eva
end
section
open Go Go.RowKit
def hitL (xa:List Tri) (p:Bool) (i:Nat) (v:Nat):List Nat:=takeN (hit xa p v) i
theorem hitL_next {xa:List Tri} {p:Bool} {i v:Nat} {x:Tri} (hx:xa[i]? = some x) (hv:(if p then x.1 else x.2.1)=(v:Int)):upd (hitL xa p i) v (hitL xa p i v ++ [i])=hitL xa p (i+1):=by
 funext s
 unfold upd hitL
 rw [takeN_succ]
 have hh:hit xa p s i=decide (s=v):=by
  unfold hit
  rw [hx]
  simp only
  rw [hv]
  by_cases e:s=v
  ·subst e; simp
  ·simp only [decide_eq_false e]
   exact beq_false_of_ne (by omega)
 by_cases e:s=v
 ·subst e
  rw [if_pos rfl,hh]; simp
 ·rw [if_neg e,hh]; simp [e]
theorem hitL_ends (xa:List Tri) (p:Bool) (i v:Nat):ints (hitL xa p i v)=ends xa i (p,v):=rfl
theorem hitL_len (xa:List Tri) (p:Bool) (i v:Nat):(hitL xa p i v).length≤i:=takeN_len _ _
namespace Eva
section
variable {h h':AH} {Fa F Ft:Nat→Prop} {Q:Value→AH→Prop} {Av Aa At:Option Addr} {nv Kv na Ka nt Kt:Nat} {vs xa:List Tri} {ts:List Tab}
theorem aBuild (sv:Sa cTri F h Av nv Kv vs) (sa:Sa cTri Fa h Aa na Ka xa) (st:Sa cTab Ft h At nt Kt ts) (ok:NetOk vs xa ts) (hfew:nv≤1000∧na≤1000)
  (hK:∀ g h',h.next≤g→g<h'.next→ldC h' g 0=some (.slice Av nv Kv)→ldC h' g 1=some (.slice Aa na Ka)→ldC h' g 2=some (.slice At nt Kt) →
   (∃ A n K,ldC h' g 3=some (.slice A n K)∧Sa cRows (fun z=>h.next≤z) h' A n K ((⟨vs,xa,ts⟩:NetD).endsL false))→(∃ A n K,ldC h' g 4=some (.slice A n K)∧Sa cRows (fun z=>h.next≤z) h' A n K ((⟨vs,xa,ts⟩:NetD).endsL true)) →
   (∃ A n K,ldC h' g 5=some (.slice A n K)∧Sa cPr (fun z=>h.next≤z) h' A n K (⟨vs,xa,ts⟩:NetD).plL)→Nw h h'→Q (.pointer (some ⟨g,0,none⟩)) h') :
  WC Tryz.prog 212 [.agg #[.slice Av nv Kv,.slice Aa na Ka,.slice At nt Kt]] h Q:=by
 have lv:=sv.len
 have la:=sa.len
 have lt:=st.len
 refine w_graph_build fun h1 e1=>?_
 obtain ⟨k1,g1,z1⟩:=news e1
 refine ⟨_,_,_,_,_,_,_,_,_,ldN3' (ldC_of g1 rfl) (ldC_of g1 rfl) (ldC_of g1 rfl),_,_,_,ldC_of g1 rfl,by omega,fun h2 e2=>?_⟩
 obtain ⟨k2,g2,z2⟩:=news e2
 refine ⟨_,_,_,ldC_of (k2.bk (by omega) g1) rfl,by omega,fun h3 e3=>?_⟩
 obtain ⟨k3,g3,z3⟩:=news e3
 refine ⟨_,_,_,ldC_of ((k2.trans k3).bk (by omega) g1) rfl,by omega,fun h4 e4 h5 e5=>?_⟩
 obtain ⟨k4,g4,z4⟩:=news e4
 obtain ⟨k5,g5,z5⟩:=news e5
 rw [rep_one] at g2 g3
 rw [tabs_rep] at g4
 have k15:=((k2.trans k3).trans k4).trans k5
 have S1:SlotW h5 (fun _=>False) h1.next nv 43 (hitL xa false 0):=(SlotW.new g2 (by omega)).nw ((k3.trans k4).trans k5)
 have S2:SlotW h5 (fun _=>False) h2.next nv 43 (hitL xa true 0):=(SlotW.new g3 (by omega)).nw (k4.trans k5)
 refine ⟨_,_,_,ldC_of (k15.bk (by omega) g1) rfl,fun m x h6=>∃ (i:Nat) (W1 W2:Nat→Prop) (f:Nat→List Value),x=i∧i≤na∧m=na - i∧SlotW h6 W1 h1.next nv 43 (hitL xa false i)∧SlotW h6 W2 h2.next nv 43 (hitL xa true i)∧(∀ z,W1 z→h5.next≤z)∧(∀ z,W2 z→h5.next≤z)∧(∀ z,W1 z→¬ W2 z) ∧
  (∀ k,(f k).length=2)∧Bk h6 h3.next (tabs f na) 190∧(∀ k,k<i→f k = [.int .i64 (((⟨vs,xa,ts⟩:NetD).inPl k:Nat):Int),.int .i64 (((⟨vs,xa,ts⟩:NetD).outPl k:Nat):Int)])∧Mt (fun z=>z=h1.next∨z=h2.next∨z=h3.next) h5 h6,na,
  ⟨0,fun _=>False,fun _=>False,_,rfl,Nat.zero_le _,rfl,S1,S2,fun z hz=>hz.elim,fun z hz=>hz.elim,fun z hz=>hz.elim,fun _=>rfl,k5.bk (by omega) g4,fun k hk=>absurd hk (by omega),Mt.refl _ _⟩,?_⟩
 rintro m x h6 ⟨i,W1,W2,f,rfl,hi,hm,T1,T2,lo1,lo2,dj,hf,b6,hfk,m6⟩
 have z6:=m6.next
 have g6:Bk h6 h4.next [.slice Av nv Kv,.slice Aa na Ka,.slice At nt Kt,.slice (some ⟨h1.next,0,none⟩) nv (cx nv),.slice (some ⟨h2.next,0,none⟩) nv (cx nv),.slice (some ⟨h3.next,0,none⟩) na (cx na)] 183:=m6.bk (by omega) (by omega) g5
 have k06:Nw h h6:=m6.is_nw (k1.trans k15) fun z hz=>by omega
 refine ⟨fun hlt=>?_,fun hge=>?_⟩
 ·obtain ⟨b,o,x,y,w,hA,-,-,hx,e0,e1',e2'⟩:=(sa.nw k06).tri (k:=i) (by omega)
  obtain ⟨⟨a0,a1⟩,⟨a2,a3⟩,-⟩:=ok.arcs_ _ (List.mem_of_getElem? hx)
  simp only at a0 a1 a2 a3
  obtain ⟨u,rfl⟩:=Int.eq_ofNat_of_zero_le a0
  obtain ⟨v,rfl⟩:=Int.eq_ofNat_of_zero_le a2
  have hu:u<nv:=by omega
  have hv:v<nv:=by omega
  refine ⟨i,rfl,b,o,hA,by omega,_,_,_,ldN3' e0 e1' e2',fun h7 e7=>?_⟩
  obtain ⟨h8,s8,k8,g8,z8⟩:=box_st (vs:=[.int .i64 (u:Int),.int .i64 (v:Int),.int .i64 w]) e7 rfl (by simp [flat])
  have G8:=k8.bk (by omega) g6
  obtain ⟨A13,K13,r13⟩:=(T1.nw k8).get hv
  obtain ⟨A15,K15,r15⟩:=(T2.nw k8).get hu
  have l1:=hitL_len xa false i v
  have l2:=hitL_len xa true i u
  obtain ⟨h9,s9,b9,z9,o9⟩:=st_tab (k8.bk (by omega) b6) hf (k:=i) (by omega) (v:=[.int .i64 (((hitL xa false i v).length:Nat):Int),.int .i64 (((hitL xa true i u).length:Nat):Int)]) rfl (by simp [flat])
  have m9:Mt (fun z=>z=h3.next) h8 h9:=⟨by omega,fun z _ hn=>o9 z hn⟩
  have G9:=m9.bk (by omega) (by omega) G8
  have x9:=m9.bk (by omega) (by omega) g8
  have p1:=T1.pos
  have p2:=T2.pos
  have S19:SlotW h9 W1 h1.next nv 43 (hitL xa false i):=(T1.nw k8).off m9 (by omega) fun z hz e=>by have:=lo1 z hz; omega
  have S29:SlotW h9 W2 h2.next nv 43 (hitL xa true i):=(T2.nw k8).off m9 (by omega) fun z hz e=>by have:=lo2 z hz; omega
  obtain ⟨A18,K18,r18,H18⟩:=S19.app hv i (by omega)
  refine ⟨h8,s8,_,_,_,ldC_of G8 rfl,_,_,_,ldC_of G8 rfl,_,ldC_of g8 rfl,v,rfl,_,_,rfl,hv,_,_,_,r13,_,_,_,ldC_of G8 rfl,_,ldC_of g8 rfl,u,rfl,_,_,rfl,hu,_,_,_,r15,_,_,rfl,by omega,h9,s9,_,_,_,ldC_of G9 rfl,_,ldC_of x9 rfl,_,_,_,ldC_of G9 rfl,_,ldC_of x9 rfl,v,rfl,_,_,rfl,hv,_,_,_,r18,fun h10 e10=>?_⟩
  obtain ⟨A19,n19,K19,h11,y11,m11,h12,s12,S12,m12⟩:=H18 h10 e10
  have nW1:¬ W1 h4.next:=fun hw=>by have:=lo1 _ hw; omega
  have nW1':¬ W1 h6.next:=fun hw=>by have:=(p1.2 _ hw).2; omega
  have nW2:¬ W2 h4.next:=fun hw=>by have:=lo2 _ hw; omega
  have nW2':¬ W2 h6.next:=fun hw=>by have:=(p2.2 _ hw).2; omega
  have G11:=m11.bk (by omega) nW1 G9
  have x11:=m11.bk (by omega) nW1' x9
  have z12:=m12.next
  have G12:=m12.bk (by omega) (fun h=>h.elim (by omega) nW1) G9
  have x12:=m12.bk (by omega) (fun h=>h.elim (by omega) nW1') x9
  have S212:SlotW h12 W2 h2.next nv 43 (hitL xa true i):=S29.off m12 (fun h=>h.elim (by omega) (fun h=>by have:=lo1 _ h; omega)) fun z hz h=>h.elim (fun e=>by have:=lo2 z hz; omega) (fun h=>dj z h hz)
  obtain ⟨A22,K22,r22,H22⟩:=S212.app hu i (by omega)
  refine ⟨A19,n19,K19,h11,y11,ldC_of x11 rfl,ldC_of G11 rfl,rfl,v,rfl,_,_,rfl,hv,h12,s12,_,_,_,ldC_of G12 rfl,_,ldC_of x12 rfl,_,_,_,ldC_of G12 rfl,_,ldC_of x12 rfl,u,rfl,_,_,rfl,hu,_,_,_,r22,fun h13 e13=>?_⟩
  obtain ⟨A23,n23,K23,h14,y14,m14,h15,s15,S15,m15⟩:=H22 h13 e13
  have G14:=m14.bk (by omega) nW2 G12
  have x14:=m14.bk (by omega) nW2' x12
  have z15:=m15.next
  have S115:=S12.off m15 (fun h=>h.elim (by omega) (fun h=>by have:=lo2 _ h; omega)) fun z hz h=>by
   rcases hz with hz | hz
   ·exact h.elim (fun e=>by have:=lo1 z hz; omega) (dj z hz)
   ·exact h.elim (by omega) (fun h=>by have:=(p2.2 z h).2; omega)
  refine ⟨A23,n23,K23,h14,y14,ldC_of x14 rfl,ldC_of G14 rfl,rfl,u,rfl,_,_,rfl,hu,h15,s15,_,wrS (by omega),na - (i+1),by omega,i+1,(fun z=>W1 z∨(h9.next≤z∧z<h12.next)),(fun z=>W2 z∨(h12.next≤z∧z<h15.next)),upd f i [.int .i64 (((hitL xa false i v).length:Nat):Int),.int .i64 (((hitL xa true i u).length:Nat):Int)],rfl,by omega,rfl,by rw [← hitL_next hx (v:=v) rfl]; exact S115,by rw [← hitL_next hx (v:=u) rfl]; exact S15,fun z hz=>hz.elim (lo1 z) (fun h=>by omega),fun z hz=>hz.elim (lo2 z) (fun h=>by omega),fun z hz h=>?_,fun j=>?_,?_,fun k hk=>?_,?_⟩
  ·rcases hz with hz | hz
   ·exact h.elim (dj z hz) (fun h=>by have:=(p1.2 z hz).2; omega)
   ·exact h.elim (fun h=>by have:=(p2.2 z h).2; omega) (fun h=>by omega)
  rotate_left
  ·exact m15.bk (by omega) (fun h=>h.elim (by omega) (fun h=>by have:=lo2 _ h; omega)) (m12.bk (by omega) (fun h=>h.elim (by omega) (fun h=>by have:=lo1 _ h; omega)) b9)
  ·unfold upd
   by_cases e:k=i
   ·subst e
    rw [if_pos rfl]
    have i1:(⟨vs,xa,ts⟩:NetD).inPl k=(hitL xa false k v).length:=by
     unfold NetD.inPl NetD.to NetD.arc
     simp only [hx,Option.getD_some,Int.toNat_natCast]
     rw [← hitL_ends]
     simp [ints]
    have i2:(⟨vs,xa,ts⟩:NetD).outPl k=(hitL xa true k u).length:=by
     unfold NetD.outPl NetD.fr NetD.arc
     simp only [hx,Option.getD_some,Int.toNat_natCast]
     rw [← hitL_ends]
     simp [ints]
    rw [i1,i2]
   ·rw [if_neg e]; exact hfk k (by omega)
  ·refine ((m6.nw k8).then (m9.mono fun z hz _=>.inr (.inr hz))).trans m12 (fun z hz hlt=>hz.elim .inl fun h=>by have:=lo1 z h; omega) |>.trans m15 fun z hz hlt=>hz.elim (fun h=>.inr (.inl h)) fun h=>by have:=lo2 z h; omega
  ·unfold upd
   split
   ·rfl
   ·exact hf j
 ·obtain rfl:i=na:=by omega
  have p1:=T1.pos
  have p2:=T2.pos
  have hend:∀ p,((List.range nv).map fun s=>ints (hitL xa p i s))=(⟨vs,xa,ts⟩:NetD).endsL p:=fun p=>by
   unfold NetD.endsL NetD.nv NetD.na
   simp only
   rw [lv,la]
   rfl
  refine hK h4.next h6 (by omega) (by omega) (ldC_of g6 rfl) (ldC_of g6 rfl) (ldC_of g6 rfl) ⟨_,_,_,ldC_of g6 rfl,?_⟩ ⟨_,_,_,ldC_of g6 rfl,?_⟩ ⟨_,_,_,ldC_of g6 rfl,?_⟩ k06
  ·rw [← hend]
   exact (T1.sa _).mono fun z hz _=>hz.elim (fun e=>by omega) fun h=>by have:=lo1 z h; omega
  ·rw [← hend]
   exact (T2.sa _).mono fun z hz _=>hz.elim (fun e=>by omega) fun h=>by have:=lo2 z h; omega
  ·refine Sa.of_bk b6 (by unfold NetD.plL NetD.na; simp [la]) (by omega) (by omega) fun k x hx=>?_
   have hk:k<i:=by have:=(List.getElem?_eq_some_iff.1 hx).1; unfold NetD.plL NetD.na at this; simp [la] at this; omega
   have hx':x=((((⟨vs,xa,ts⟩:NetD).inPl k:Nat):Int),(((⟨vs,xa,ts⟩:NetD).outPl k:Nat):Int)):=by
    unfold NetD.plL NetD.na at hx
    simp [la,hk] at hx
    exact hx.symm
   subst hx'
   show ((tabs f i).drop (k * 2)).take 2=_
   rw [tabs_cut hf i hk,hfk k hk]
end
end Eva
end
section
open Go Go.RowKit
namespace Eva
section
variable {h h':AH} {Fa Fv Ft:Nat→Prop} {Q:Value→AH→Prop} {A Av Aa At:Option Addr} {n K nv Kv na Ka nt Kt:Nat} {vs xa:List Tri} {ts:List Tab}
structure GrX (h:AH) (Fa Ft F:Nat→Prop) (g:Nat) (N:NetD):Prop where
 own:F g∧g<h.next
 verts:∃ A n K,ldC h g 0=some (.slice A n K)∧Sa cTri F h A n K N.vs
 arcs:∃ A n K,ldC h g 1=some (.slice A n K)∧OwnP cTri h Fa 175 A n K N.xa
 types:∃ A n K,ldC h g 2=some (.slice A n K)∧OwnP cTab h Ft 188 A n K N.ts
 ins:∃ A n K,ldC h g 3=some (.slice A n K)∧Sa cRows F h A n K (N.endsL false)
 outs:∃ A n K,ldC h g 4=some (.slice A n K)∧Sa cRows F h A n K (N.endsL true)
 pls:∃ A n K,ldC h g 5=some (.slice A n K)∧Sa cPr F h A n K N.plL
 ok:N.Ok
 few:N.nv≤1000∧N.na≤1000
 dj:∀ z,(Fa z→¬ Ft z∧¬ F z)∧(Ft z→¬ F z)
theorem GrX.gr {g:Nat} {N:NetD} {F:Nat→Prop} (X:GrX h Fa Ft F g N):GrA h Fa (fun z=>F z∨Ft z) g N:=by
 obtain ⟨o,⟨a1,a2,a3,a4,a5⟩,⟨b1,b2,b3,b4,b5⟩,⟨c1,c2,c3,c4,c5⟩,⟨d1,d2,d3,d4,d5⟩,⟨e1,e2,e3,e4,e5⟩,⟨f1,f2,f3,f4,f5⟩,ok,fw,dj⟩:=X
 exact ⟨⟨.inl o.1,o.2⟩,⟨a1,a2,a3,a4,a5.mono fun z hz _=>.inl hz⟩,⟨b1,b2,b3,b4,b5.sa⟩,⟨c1,c2,c3,c4,c5.sa.mono fun z hz _=>.inr hz⟩,⟨d1,d2,d3,d4,d5.mono fun z hz _=>.inl hz⟩,⟨e1,e2,e3,e4,e5.mono fun z hz _=>.inl hz⟩,⟨f1,f2,f3,f4,f5.mono fun z hz _=>.inl hz⟩,ok,fw⟩
theorem GrX.keep {g:Nat} {N:NetD} {F:Nat→Prop} (X:GrX h Fa Ft F g N) (hk:∀ b,Fa b∨Ft b∨F b→b<h.next→h'.get b=h.get b) (hn:h.next≤h'.next):GrX h' Fa Ft F g N:=by
 obtain ⟨o,⟨a1,a2,a3,a4,a5⟩,⟨b1,b2,b3,b4,b5⟩,⟨c1,c2,c3,c4,c5⟩,⟨d1,d2,d3,d4,d5⟩,⟨e1,e2,e3,e4,e5⟩,⟨f1,f2,f3,f4,f5⟩,ok,fw,dj⟩:=X
 have hg:∀ j,ldC h' g j=ldC h g j:=fun j=>ldC_congr (hk g (.inr (.inr o.1)) o.2) j
 have kF:∀ b,F b→b<h.next→h'.get b=h.get b:=fun b hb=>hk b (.inr (.inr hb))
 exact ⟨⟨o.1,Nat.lt_of_lt_of_le o.2 hn⟩,⟨a1,a2,a3,(hg _).trans a4,a5.keep kF hn⟩,⟨b1,b2,b3,(hg _).trans b4,b5.keep (fun b hb=>hk b (.inl hb)) hn⟩,⟨c1,c2,c3,(hg _).trans c4,c5.keep (fun b hb=>hk b (.inr (.inl hb))) hn⟩,⟨d1,d2,d3,(hg _).trans d4,d5.keep kF hn⟩,⟨e1,e2,e3,(hg _).trans e4,e5.keep kF hn⟩,⟨f1,f2,f3,(hg _).trans f4,f5.keep kF hn⟩,ok,fw,dj⟩
theorem GrX.nw {g:Nat} {N:NetD} {F:Nat→Prop} (X:GrX h Fa Ft F g N) (a:Nw h h'):GrX h' Fa Ft F g N:=X.keep (fun b _ hb=>a.get b hb) a.next
theorem aGraphNew (sv:Sa cTri Fv h Av nv Kv vs) (sa:Sa cTri Fa h Aa na Ka xa) (st:Sa cTab Ft h At nt Kt ts) (ok:NetOk vs xa ts) (hfew:nv≤1000∧na≤1000)
  (hK:∀ g h' Fa Ft F,GrX h' Fa Ft F g ⟨vs,xa,ts⟩→(∀ z,Fa z∨Ft z∨F z→h.next≤z)→Nw h h'→Q (.tuple #[.pointer (some ⟨g,0,none⟩),.nilIface]) h') :
  WC Tryz.prog 144 [.agg #[.slice Av nv Kv,.slice Aa na Ka,.slice At nt Kt]] h Q:=by
 refine w_graph_New fun h1 e1=>?_
 obtain ⟨k1,g1,z1⟩:=news e1
 have bN:∀ {h'},Nw h1 h'→ldN h' h.next 0 3=some [.slice Av nv Kv,.slice Aa na Ka,.slice At nt Kt]:=fun a=>ldN3' (ldC_of (a.bk (by omega) g1) rfl) (ldC_of (a.bk (by omega) g1) rfl) (ldC_of (a.bk (by omega) g1) rfl)
 refine ⟨_,_,_,_,_,_,_,_,_,bN (Nw.refl _),aNetCheck (sv.nw k1) (sa.nw k1) (st.nw k1) ok fun h2 k2=>⟨none,rfl,fun _=>⟨_,_,_,_,_,_,_,_,_,bN k2,?_⟩,fun t u h=>by cases h⟩⟩
 have k12:=k1.trans k2
 refine aGClone (sv.nw k12) (sa.nw k12) (st.nw k12) ok fun D3 A1 K1 A2 K2 A3 K3 h3 c1 c2 c3 lo lo3 k3=>⟨_,_,_,_,_,_,_,_,_,rfl,?_⟩
 have z2:=k12.next
 have z3:=k3.next
 refine aBuild c1 c2.sa c3.sa ok hfew fun g h4 g1 g2 i0 i1 i2 i3 i4 i5 k4=>⟨_,rfl,?_⟩
 obtain ⟨d1,d2,d3,d4,d5⟩:=i3
 obtain ⟨e1,e2,e3,e4,e5⟩:=i4
 obtain ⟨f1,f2,f3,f4,f5⟩:=i5
 have c2':=c2.nw k4
 have c3':OwnP cTab h3 (fun z=>D3 z∧z<h3.next) 188 A3 nt K3 ts:=c3.mono fun z hz hl=>⟨hz,hl⟩
 refine hK g h4 (ownB A2) (fun z=>D3 z∧z<h3.next) (fun z=>(h.next≤z∧¬ ownB A2 z∧¬ D3 z)∨h3.next≤z) ⟨⟨.inr g1,g2⟩,⟨_,_,_,i0,(c1.nw k4).mono fun z hz _=>.inl ⟨by omega,hz.2⟩⟩,⟨_,_,_,i1,c2'⟩,⟨_,_,_,i2,c3'.nw k4⟩,⟨d1,d2,d3,d4,d5.mono fun z hz _=>.inr hz⟩,⟨e1,e2,e3,e4,e5.mono fun z hz _=>.inr hz⟩,⟨f1,f2,f3,f4,f5.mono fun z hz _=>.inr hz⟩,ok,?_,fun z=>⟨fun hz=>⟨fun hd=>(lo z hz).2 hd.1,fun hf=>hf.elim (fun hf=>hf.2.1 hz) fun hf=>by have:=c2.own hz; omega⟩,fun hd hf=>hf.elim (fun hf=>hf.2.2 hd.1) fun hf=>by omega⟩⟩ (fun z hz=>?_) ((k12.trans k3).trans k4)
 ·have lv:=sv.len
  have la:=sa.len
  unfold NetD.nv NetD.na
  simp only
  omega
 ·rcases hz with hz | hz | hz | hz
  ·have:=(lo z hz).1; omega
  ·have:=lo3 z hz.1; omega
  ·omega
  ·omega
theorem cloneZ {h1:AH} {b:Nat} {t:TypeId} {α:Type} {r:Rc α} {F:Nat→Prop} {bytes:Nat} {xs:List α} (hr:Free r) (hT:tyB Tryz.prog t r.size bytes=true) (hs:Sz r F h A n K xs) (hn:n * bytes<1000000) (hn':n<1000000) (k1:Nw h h1) (g1:Bk h1 b [] t) (hb:h.next≤b) (hlt:b<h1.next) :
  ∃ A' K' h',lAppend Tryz.prog h1 (some (.slice t)) (some (.slice t)) (.slice (some ⟨b,0,none⟩) 0 0) (.slice A n K)=some (.slice A' n K',h')∧OwnP r h' (ownB A') t A' n K' xs∧Mt (fun z=>z=b) h1 h'∧(∀ z,ownB A' z→z=b∨(h1.next≤z∧z<h'.next)):=by
 have hB:OwnP r h1 (ownB (some ⟨b,0,none⟩)) t (some ⟨b,0,none⟩) 0 (2 * 0) []:=OwnP.lit (xs:=[]) (n:=0) g1 rfl (by omega) rfl (by simp) (by simp) (by simp)
 obtain ⟨A',K',h',x1,x2,x3,x4⟩:=app_row hr hT hB (hs.nw k1) (by rw [Nat.zero_add]; omega) (by omega)
 rw [Nat.zero_add] at x1 x2
 rw [List.nil_append] at x2
 exact ⟨A',K',h',x1,x2,x3.mono fun z hz _=>hz,fun z hz=>(x4 z hz).imp id id⟩
theorem aTo2 {p q:Int} {F:Nat→Prop} {xs:List Int} (hs:Sz cI F h A n K xs) (hn:n≤10000) (hK:∀ A' K' h',Sa cI (fun z=>h.next≤z) h' A' n K' xs→Nw h h'→Q (.agg #[.int .i64 p,.int .i64 q,.slice A' n K']) h') :
  WC Tryz.prog 213 [.agg #[.int .i64 p,.int .i64 q,.slice A n K]] h Q:=by
 refine w_law2_To fun h1 e1 h2 e2=>?_
 obtain ⟨k1,g1,z1⟩:=news e1
 obtain ⟨k2,g2,z2⟩:=news e2
 refine ⟨p,ldC_of (k2.bk (by omega) g1) rfl,q,ldC_of (k2.bk (by omega) g1) rfl,fun h3 e3=>?_⟩
 obtain ⟨k3,g3,z3⟩:=news e3
 obtain ⟨A',K',h4,x1,x2,x3,x4⟩:=cloneZ (r:=cI) (bytes:=8) (t:=2) free_cI (by kernel_rfl) hs (by omega) (by omega) ((k1.trans k2).trans k3) g3 (by omega) (by omega)
 have z4:=x3.next
 have g14:=x3.bk (by omega) (by omega) ((k2.trans k3).bk (by omega) g1)
 obtain ⟨h5,s5,b5,z5,o5⟩:=st_all (vs:=[.int .i64 p,.int .i64 q,.slice A' n K']) (x3.bk (by omega) (by omega) (k3.bk (by omega) g2)) rfl (by simp [flat])
 have m5:Mt (fun z=>z=h1.next) h4 h5:=⟨by omega,fun z _ hn=>o5 z hn⟩
 refine ⟨_,_,_,ldC_of ((k2.trans k3).bk (by omega) g1) rfl,A',n,K',h4,x1,ldC_of g14 rfl,ldC_of g14 rfl,h5,s5,_,_,_,_,_,ldN3' (ldC_of b5 rfl) (ldC_of b5 rfl) (ldC_of b5 rfl),hK A' K' h5 ((x2.off m5 fun z hz _ e=>by rcases x4 z hz with h | h <;> omega).sa.mono fun z hz _=>by rcases x4 z hz with h | h <;> omega) ?_⟩
 exact ((x3.mono (S':=fun z=>h.next≤z) fun z hz _=>by omega).then (m5.mono fun z hz _=>by omega)).is_nw ((k1.trans k2).trans k3) fun z hz=>hz
end
end Eva
end
section
open Go Go.RowKit
namespace Eva
section
variable {h h':AH} {Fa Fv Ft F:Nat→Prop} {Q:Value→AH→Prop} {A Av Aa At:Option Addr} {n K nv Kv na Ka nt Kt:Nat} {vs xa:List Tri} {ts:List Tab} {p:List (List Int)}
theorem aTo3 (sv0:Sz cTri Fv h Av nv Kv vs) (sa0:Sz cTri Fa h Aa na Ka xa) (st0:Sz Rc.tableZ Ft h At nt Kt ts) (hv:nv≤10000) (ha:na≤10000) (ht:nt≤10000) (hc:∀ t∈ts,t.2.2.length≤10000)
  (hK:∀ A1 K1 A2 K2 A3 K3 h',Sa cTri (fun z=>h.next≤z) h' A1 nv K1 vs→Sa cTri (fun z=>h.next≤z) h' A2 na K2 xa→Sa cTab (fun z=>h.next≤z) h' A3 nt K3 ts→Nw h h'→Q (.agg #[.slice A1 nv K1,.slice A2 na K2,.slice A3 nt K3]) h') :
  WC Tryz.prog 145 [.agg #[.slice Av nv Kv,.slice Aa na Ka,.slice At nt Kt]] h Q:=by
 have sv:Sz cTri (fun z=>z<h.next) h Av nv Kv vs:=sv0.mono fun z _ hz=>hz
 have sa:Sz cTri (fun z=>z<h.next) h Aa na Ka xa:=sa0.mono fun z _ hz=>hz
 have st:Sz Rc.tableZ (fun z=>z<h.next) h At nt Kt ts:=st0.mono fun z _ hz=>hz
 have lv:=sv.len
 have la:=sa.len
 have lt:=st.len
 refine w_law3_To fun h1 e1 h2 e2 h3 e3=>?_
 obtain ⟨k1,g1,z1⟩:=news e1
 obtain ⟨k2,g2,z2⟩:=news e2
 obtain ⟨k3,g3,z3⟩:=news e3
 have k13:=(k1.trans k2).trans k3
 refine ⟨fun m x h4=>∃ (i:Nat) (A1:Option Addr) (K1:Nat),x=i∧i≤nv∧m=nv - i∧Bk h4 h2.next [.slice A1 i K1,.slice none 0 0,.slice none 0 0] 180∧OwnP cTri h4 (ownB A1) 186 A1 i K1 (vs.take i)∧(∀ z,ownB A1 z→h3.next≤z)∧Mt (fun z=>z=h2.next) h3 h4,nv,⟨0,none,0,rfl,Nat.zero_le _,rfl,g3,OwnP.nil _ _ _ _,fun z hz=>hz.elim,Mt.refl _ _⟩,?_⟩
 rintro m x h4 ⟨i,A1,K1,rfl,hi,hm,b4,o1,lo1,m4⟩
 have z4:=m4.next
 have k14:Nw h h4:=m4.is_nw k13 fun z hz=>by omega
 have g14:Bk h4 h.next [.slice Av nv Kv,.slice Aa na Ka,.slice At nt Kt] 26:=m4.bk (by omega) (by omega) ((k2.trans k3).bk (by omega) g1)
 have g24:Bk h4 h1.next [.slice none 0 0,.slice none 0 0,.slice none 0 0] 180:=m4.bk (by omega) (by omega) (k3.bk (by omega) g2)
 refine ⟨_,_,_,ldC_of g14 rfl,fun hlt=>?_,fun hge=>?_⟩
 ·obtain ⟨b,o,x,y,z,hA,-,-,hx,e0,e1',e2'⟩:=(sv.nw k14).tri (k:=i) (by omega)
  refine ⟨_,_,_,ldC_of b4 rfl,_,_,_,ldC_of g14 rfl,i,rfl,b,o,hA,by omega,_,e0,_,_,_,ldC_of g14 rfl,b,o,hA,by omega,_,e1',_,_,_,ldC_of g14 rfl,b,o,hA,by omega,_,e2',fun h5 e5=>?_⟩
  obtain ⟨k5,g5,z5⟩:=news e5
  obtain ⟨A9,K9,h6,y1,y2,y3,y4⟩:=app_row (r:=cTri) (bytes:=24) (free_tri _ _ _) (by kernel_rfl) (o1.nw k5) (Sz.one (r:=cTri) (L:=2) (x:=(x,y,z)) (F:=fun z=>z=h4.next) g5 rfl (by omega) rfl rfl) (by omega) (by omega)
  have z6:=y3.next
  obtain ⟨h7,s7,b7,z7,o7⟩:=st_one (v:=.slice A9 (i+1) K9) (y3.bk (by omega) (fun ho=>by have:=lo1 _ ho; omega) (k5.bk (by omega) b4)) (o:=0) (by simp) rfl
  have m7:Mt (fun z=>z=h2.next) h6 h7:=⟨by omega,fun z _ hn=>o7 z hn⟩
  have lo9:∀ z,ownB A9 z→h3.next≤z:=fun z hz=>(y4 z hz).elim (lo1 z) (fun h=>by omega)
  refine ⟨A9,i+1,K9,h6,y1,h7,s7,_,wrS (by omega),nv - (i+1),by omega,i+1,A9,K9,rfl,by omega,rfl,b7,?_,lo9,((m4.nw k5).trans y3 fun z hz hlt=>by have:=lo1 z hz; omega).then m7⟩
  rw [List.take_add_one,hx]
  exact y2.off m7 fun z hz _ e=>by have:=lo9 z hz; omega
 ·obtain rfl:i=nv:=by omega
  rw [List.take_of_length_le (by omega)] at o1
  refine ⟨fun m x h8=>∃ (j:Nat) (A2:Option Addr) (K2:Nat),x=j∧j≤na∧m=na - j∧Bk h8 h2.next [.slice A1 i K1,.slice A2 j K2,.slice none 0 0] 180∧OwnP cTri h8 (ownB A2) 175 A2 j K2 (xa.take j)∧(∀ z,ownB A2 z→h4.next≤z)∧Mt (fun z=>z=h2.next) h4 h8,na,⟨0,none,0,rfl,Nat.zero_le _,rfl,b4,OwnP.nil _ _ _ _,fun z hz=>hz.elim,Mt.refl _ _⟩,?_⟩
  rintro m' x h8 ⟨j,A2,K2,rfl,hj,hm',b8,o2,lo2,m8⟩
  have z8:=m8.next
  have k18:Nw h h8:=m8.is_nw k14 fun z hz=>by omega
  have g18:=m8.bk (by omega) (by omega) g14
  have g28:=m8.bk (by omega) (by omega) g24
  refine ⟨_,_,_,ldC_of g18 rfl,fun hlt=>?_,fun hge'=>?_⟩
  ·obtain ⟨b,o,x,y,z,hA,-,-,hx,e0,e1',e2'⟩:=(sa.nw k18).tri (k:=j) (by omega)
   refine ⟨_,_,_,ldC_of b8 rfl,_,_,_,ldC_of g18 rfl,j,rfl,b,o,hA,by omega,_,e0,_,_,_,ldC_of g18 rfl,b,o,hA,by omega,_,e1',_,_,_,ldC_of g18 rfl,b,o,hA,by omega,_,e2',fun h5 e5=>?_⟩
   obtain ⟨k5,g5,z5⟩:=news e5
   obtain ⟨A9,K9,h6,y1,y2,y3,y4⟩:=app_row (r:=cTri) (bytes:=24) (free_tri _ _ _) (by kernel_rfl) (o2.nw k5) (Sz.one (r:=cTri) (L:=2) (x:=(x,y,z)) (F:=fun z=>z=h8.next) g5 rfl (by omega) rfl rfl) (by omega) (by omega)
   have z6:=y3.next
   obtain ⟨h7,s7,b7,z7,o7⟩:=st_one (v:=.slice A9 (j+1) K9) (y3.bk (by omega) (fun ho=>by have:=lo2 _ ho; omega) (k5.bk (by omega) b8)) (o:=1) (by simp) rfl
   have m7:Mt (fun z=>z=h2.next) h6 h7:=⟨by omega,fun z _ hn=>o7 z hn⟩
   have lo9:∀ z,ownB A9 z→h4.next≤z:=fun z hz=>(y4 z hz).elim (lo2 z) (fun h=>by omega)
   refine ⟨A9,j+1,K9,h6,y1,h7,s7,_,wrS (by omega),na - (j+1),by omega,j+1,A9,K9,rfl,by omega,rfl,b7,?_,lo9,((m8.nw k5).trans y3 fun z hz hlt=>by have:=lo2 z hz; omega).then m7⟩
   rw [List.take_add_one,hx]
   exact y2.off m7 fun z hz _ e=>by have:=lo9 z hz; omega
  ·obtain rfl:j=na:=by omega
   rw [List.take_of_length_le (by omega)] at o2
   refine ⟨fun m x h12=>∃ (l:Nat) (D:Nat→Prop) (A3:Option Addr) (K3:Nat),x=l∧l≤nt∧m=nt - l∧Bk h12 h2.next [.slice A1 i K1,.slice A2 j K2,.slice A3 l K3] 180∧OwnP cTab h12 D 188 A3 l K3 (ts.take l)∧(∀ z,D z→h8.next≤z∧z<h12.next)∧Mt (fun z=>z=h2.next) h8 h12,nt,⟨0,fun _=>False,none,0,rfl,Nat.zero_le _,rfl,b8,OwnP.nil _ _ _ _,fun z hz=>hz.elim,Mt.refl _ _⟩,?_⟩
   rintro m3 x h12 ⟨l,D,A3,K3,rfl,hl,hm3,b12,o3,hD,m12⟩
   have z12:=m12.next
   have k112:Nw h h12:=m12.is_nw k18 fun z hz=>by omega
   have g112:=m12.bk (by omega) (by omega) g18
   have g212:=m12.bk (by omega) (by omega) g28
   refine ⟨_,_,_,ldC_of g112 rfl,fun hlt=>?_,fun hge3=>?_⟩
   ·obtain ⟨b',o',p',q',A',n',K',zs,hA',-,-,htt,f0,f1,f2,sz⟩:=(st.nw k112).tableZ (k:=l) (by omega)
    have hcc:=hc _ (List.mem_of_getElem? htt)
    have hzl:=sz.len
    simp only at hcc
    refine ⟨_,_,_,ldC_of b12 rfl,_,_,_,ldC_of g112 rfl,l,rfl,b',o',hA',by omega,_,_,_,_,_,ldN3' f0 f1 f2,aTo2 sz (by omega) fun A20 K20 h13 s13 k13'=>⟨_,_,_,_,_,rfl,ldC_of (k13'.bk (by omega) b12) rfl,o3.spot,fun h14 e14=>?_⟩⟩
    obtain ⟨k14',g14',z14⟩:=news e14
    have z13:=k13'.next
    have hz:Sz cTab (fun z=>h12.next≤z∧z<h14.next) h14 (some ⟨h13.next,0,none⟩) 1 2 [(p',q',zs)]:=Sz.one g14' ⟨by omega,by omega⟩ (by omega) rfl ⟨A20,n',K20,rfl,(s13.nw k14').mono fun z hz hlt=>⟨hz,hlt⟩⟩
    obtain ⟨A21,K21,h15,y1,y2,y3,y4⟩:=app_rows (r:=cTab) (bytes:=40) (by kernel_rfl) (o3.nw (k13'.trans k14')) hz (fun b hb ho=>by have:=(hD b (o3.lt ho).1).2; omega) (by omega) (by omega)
    have z15:=y3.next
    have nO:¬ ownB A3 h2.next:=fun ho=>by have:=(hD _ (o3.lt ho).1).1; omega
    obtain ⟨h16,s16,b16,z16,o16⟩:=st_one (v:=.slice A21 (l+1) K21) (y3.bk (by omega) nO ((k13'.trans k14').bk (by omega) b12)) (o:=2) (by simp) rfl
    have m16:Mt (fun z=>z=h2.next) h15 h16:=⟨by omega,fun z _ hn=>o16 z hn⟩
    refine ⟨A21,l+1,K21,h15,y1,h16,s16,_,wrS (by omega),nt - (l+1),by omega,l+1,fun z=>(D z∨(h12.next≤z∧z<h14.next)∨z=h14.next)∧z<h15.next,A21,K21,rfl,by omega,rfl,b16,?_,fun z hz=>?_,((m12.nw (k13'.trans k14')).trans y3 fun z hz hlt=>by have:=(hD z (o3.lt hz).1).1; omega).then m16⟩
    ·rw [List.take_add_one,htt]
     refine (y2.mono (D':=fun z=>(D z∨(h12.next≤z∧z<h14.next)∨z=h14.next)∧z<h15.next) fun z hz hlt=>⟨hz,hlt⟩).off m16 fun z hz _ e=>?_
     rcases hz.1 with h9 | h9 | h9
     ·have:=(hD z h9).1; omega
     ·omega
     ·omega
    ·rcases hz.1 with h9 | h9 | h9
     ·have:=hD z h9; omega
     ·omega
     ·omega
   ·obtain rfl:l=nt:=by omega
    rw [List.take_of_length_le (by omega)] at o3
    obtain ⟨h17,s17,b17,z17,o17⟩:=st_all (vs:=[.slice A1 i K1,.slice A2 j K2,.slice A3 l K3]) g212 rfl (by simp [flat])
    have m17:Mt (fun z=>z=h1.next) h12 h17:=⟨by omega,fun z _ hn=>o17 z hn⟩
    refine ⟨_,_,_,_,_,_,_,_,_,ldN3' (ldC_of b12 rfl) (ldC_of b12 rfl) (ldC_of b12 rfl),h17,s17,_,_,_,_,_,_,_,_,_,ldN3' (ldC_of b17 rfl) (ldC_of b17 rfl) (ldC_of b17 rfl),hK _ _ _ _ _ _ h17 ?_ ?_ ?_ (m17.is_nw k112 fun z hz=>by omega)⟩
    ·exact ((((o1.sa.off m8 fun z hz e=>by have:=lo1 z hz; omega).off m12 fun z hz e=>by have:=lo1 z hz; omega).off m17 fun z hz e=>by have:=lo1 z hz; omega)).mono fun z hz _=>by have:=lo1 z hz; omega
    ·exact ((o2.sa.off m12 fun z hz e=>by have:=lo2 z hz; omega).off m17 fun z hz e=>by have:=lo2 z hz; omega).mono fun z hz _=>by have:=lo2 z hz; omega
    ·exact (o3.sa.off m17 fun z hz e=>by have:=(hD z hz).1; omega).mono fun z hz _=>by have:=(hD z hz).1; omega
theorem aTo13 (hs0:Sz (Rc.sliceZ cI) F h A n K p) (hn:n≤10000) (hc:∀ x∈p,x.length≤10000) (hK:∀ A' K' h',Sa cRows (fun z=>h.next≤z) h' A' n K' p→Nw h h'→Q (.agg #[.slice A' n K']) h'):WC Tryz.prog 9 [.agg #[.slice A n K]] h Q:=by
 have hs:Sz (Rc.sliceZ cI) (fun z=>z<h.next) h A n K p:=hs0.mono fun z _ hz=>hz
 have ln:=hs.len
 refine w_law13_To fun h1 e1 h2 e2 h3 e3=>?_
 obtain ⟨k1,g1,z1⟩:=news e1
 obtain ⟨k2,g2,z2⟩:=news e2
 obtain ⟨k3,g3,z3⟩:=news e3
 have k13:=(k1.trans k2).trans k3
 refine ⟨fun m x h12=>∃ (l:Nat) (D:Nat→Prop) (A3:Option Addr) (K3:Nat),x=l∧l≤n∧m=n - l∧Bk h12 h2.next [.slice A3 l K3] 41∧OwnP cRows h12 D 43 A3 l K3 (p.take l)∧(∀ z,D z→h3.next≤z∧z<h12.next)∧Mt (fun z=>z=h2.next) h3 h12,n,⟨0,fun _=>False,none,0,rfl,Nat.zero_le _,rfl,g3,OwnP.nil _ _ _ _,fun z hz=>hz.elim,Mt.refl _ _⟩,?_⟩
 rintro m3 x h12 ⟨l,D,A3,K3,rfl,hl,hm3,b12,o3,hD,m12⟩
 have z12:=m12.next
 have k112:Nw h h12:=m12.is_nw k13 fun z hz=>by omega
 have g112:=m12.bk (by omega) (by omega) ((k2.trans k3).bk (by omega) g1)
 have g212:=m12.bk (by omega) (by omega) (k3.bk (by omega) g2)
 refine ⟨_,_,_,ldC_of g112 rfl,fun hlt=>?_,fun hge3=>?_⟩
 ·refine ⟨_,_,_,ldC_of b12 rfl,fun h5 e5=>?_⟩
  obtain ⟨k5,g5,z5⟩:=news e5
  obtain ⟨b',o',A',n',K',zs,hA',-,hb',htt,f0,sz⟩:=(hs.nw k112).rowZ (k:=l) (by omega)
  have hcc:=hc _ (List.mem_of_getElem? htt)
  have hzl:=sz.len
  obtain ⟨A6,K6,h6,x1,x2,x3,x4⟩:=cloneZ (r:=cI) (bytes:=8) (t:=3) free_cI (by kernel_rfl) sz (by omega) (by omega) k5 g5 (by omega) (by omega)
  have z6:=x3.next
  have b6:=x3.bk (by omega) (by omega) (k5.bk (by omega) b12)
  refine ⟨_,_,_,ldC_of (k5.bk (by omega) g112) rfl,l,rfl,b',o',hA',by omega,A',n',K',(k5.ldC hb' _).trans f0,A6,n',K6,h6,x1,ldC_of b6 rfl,o3.spot,fun h7 e7=>?_⟩
  obtain ⟨k7,g7,z7⟩:=news e7
  have hz:Sz cRows (fun z=>h12.next≤z∧z<h7.next) h7 (some ⟨h6.next,0,none⟩) 1 2 [zs]:=Sz.one g7 ⟨by omega,by omega⟩ (by omega) rfl ⟨A6,n',K6,rfl,(x2.nw k7).sa.mono fun z hz hlt=>⟨by rcases x4 z hz with h | h <;> omega,hlt⟩⟩
  have o3':=((o3.nw k5).off x3 fun z hz _ e=>by have:=(hD z hz).2; omega).nw k7
  obtain ⟨A21,K21,h15,y1,y2,y3,y4⟩:=app_rows (r:=cRows) (bytes:=24) (by kernel_rfl) o3' hz (fun b hb ho=>by have:=(hD b (o3.lt ho).1).2; omega) (by omega) (by omega)
  have z15:=y3.next
  have nO:¬ ownB A3 h2.next:=fun ho=>by have:=(hD _ (o3.lt ho).1).1; omega
  obtain ⟨h16,s16,b16,z16,o16⟩:=st_one (v:=.slice A21 (l+1) K21) (y3.bk (by omega) nO (k7.bk (by omega) b6)) (o:=0) (by simp) rfl
  have m16:Mt (fun z=>z=h2.next) h15 h16:=⟨by omega,fun z _ hn=>o16 z hn⟩
  refine ⟨A21,l+1,K21,h15,y1,h16,s16,_,wrS (by omega),n - (l+1),by omega,l+1,fun z=>(D z∨(h12.next≤z∧z<h7.next)∨z=h7.next)∧z<h15.next,A21,K21,rfl,by omega,rfl,b16,?_,fun z hz=>?_,(((m12.nw k5).trans x3 fun z hz hlt=>by omega).nw k7 |>.trans y3 fun z hz hlt=>by have:=(hD z (o3.lt hz).1).1; omega).then m16⟩
  ·rw [List.take_add_one,htt]
   refine (y2.mono (D':=fun z=>(D z∨(h12.next≤z∧z<h7.next)∨z=h7.next)∧z<h15.next) fun z hz hlt=>⟨hz,hlt⟩).off m16 fun z hz _ e=>?_
   rcases hz.1 with h9 | h9 | h9
   ·have:=(hD z h9).1; omega
   ·omega
   ·omega
  ·rcases hz.1 with h9 | h9 | h9
   ·have:=hD z h9; omega
   ·omega
   ·omega
 ·obtain rfl:l=n:=by omega
  rw [List.take_of_length_le (by omega)] at o3
  obtain ⟨h17,s17,b17,z17,o17⟩:=st_all (vs:=[.slice A3 l K3]) g212 rfl (by simp [flat])
  have m17:Mt (fun z=>z=h1.next) h12 h17:=⟨by omega,fun z _ hn=>o17 z hn⟩
  exact ⟨_,_,_,ldN1 (ldC_of b12 rfl),h17,s17,_,_,_,ldN1 (ldC_of b17 rfl),hK _ _ h17 ((o3.sa.off m17 fun z hz e=>by have:=(hD z hz).1; omega).mono fun z hz _=>by have:=(hD z hz).1; omega) (m17.is_nw k112 fun z hz=>by omega)⟩
end
end Eva
end
section
open Go Go.RowKit
namespace Eva
def Rc.at_:Rc (ByteArray × Int) where
 size:=2
 rel:=fun _ _ cs x=>cs = [.string x.1,.int .i64 x.2]
 len:=fun h=>by rw [h]; rfl
 flat:=fun h u hu=>by rw [h] at hu; simp at hu; rcases hu with rfl | rfl <;> rfl
 keep:=fun _ _ h=>h
 mono:=fun _ h=>h
theorem free_at:Free Rc.at_:=fun h=>h
section
variable {h h':AH} {F:Nat→Prop} {Q:Value→AH→Prop} {A:Option Addr} {n K:Nat} {xs:List Int}
theorem out2 {b:Nat} {u v:Value} {t:TypeId} {e:Int} (hb:Bk h b [u,v] t) (hQ:∀ h',Mt (fun z=>z=b) h h'→Q (.agg #[.slice A n K,.int .i64 e]) h') :
  ∃ h',stC h b 0 [.slice A n K,.int .i64 e]=some h'∧∃ (A':Option Addr) (n':Nat) (K':Nat) (e':Int),ldN h' b 0 2=some [.slice A' n' K',.int .i64 e']∧Q (.agg #[.slice A' n' K',.int .i64 e']) h':=by
 obtain ⟨h2,s2,b2,z2,o2⟩:=st_all (vs:=[.slice A n K,.int .i64 e]) hb rfl (by simp [flat])
 exact ⟨h2,s2,A,n,K,e,ldN2 (ldC_of b2 rfl) (ldC_of b2 rfl),hQ h2 ⟨by omega,fun z _ hn=>o2 z hn⟩⟩
theorem aAt {s:ByteArray} {x e:Int} (hK:∀ A' h',Sz Rc.at_ (fun z=>h.next≤z) h' A' 1 2 [(s,x)]→Nw h h'→Q (.agg #[.slice A' 1 2,.int .i64 e]) h'):WC Tryz.prog 125 [.string s,.int .i64 x,.int .i64 e] h Q:=by
 refine w_ref6_At fun h1 e1 h2 e2=>?_
 obtain ⟨k1,g1,z1⟩:=news e1
 obtain ⟨k2,g2,z2⟩:=news e2
 refine out2 (k2.bk (by omega) g1) fun h3 m3=>hK _ h3 ?_ (m3.is_nw (k1.trans k2) fun z hz=>by omega)
 exact Sz.one (r:=Rc.at_) (m3.bk (by omega) (by omega) g2) (by omega) (by have:=m3.next; omega) rfl rfl
theorem aRefWeight {c:Int} (hK:Q (.bool (weightB c)) h):WC Tryz.prog 142 [.int .i64 c] h Q:=by
 refine w_ref6_Weight ⟨fun h1=>⟨fun h2=>?_,fun h2=>⟨fun h3=>?_,fun h3=>?_⟩⟩,fun h1=>⟨fun h3=>?_,fun h3=>?_⟩⟩
 all_goals first
  | rwa [show weightB c=true from decide_eq_true (by omega)] at hK
  | rwa [show weightB c=false from decide_eq_false (by omega)] at hK
theorem aRefCoord {c:Int} (hK:Q (.bool (coordB c)) h):WC Tryz.prog 141 [.int .i64 c] h Q:=by
 refine w_ref6_Coord ⟨fun h1=>⟨fun h2=>?_,fun h2=>?_⟩,fun h1=>?_⟩
 all_goals first
  | rwa [show coordB c=true from decide_eq_true (by omega)] at hK
  | rwa [show coordB c=false from decide_eq_false (by omega)] at hK
theorem aRefTable {p q:Int} (hs0:Sz cI F h A n K xs) (hn:n≤10000) (hK:∀ A' n' K' e h',Nw h h'→(e=0→TableOk p q xs)→(e≠0→∃ G w,n' = 1∧Sz Rc.at_ G h' A' 1 K' [w])→Q (.agg #[.slice A' n' K',.int .i64 e]) h') :
  WC Tryz.prog 139 [.agg #[.int .i64 p,.int .i64 q,.slice A n K]] h Q:=by
 have hs:Sz cI (fun z=>z<h.next) h A n K xs:=hs0.mono fun z _ hz=>hz
 have ln:=hs.len
 refine w_ref6_CheckTable fun h1 e1 h2 e2=>?_
 obtain ⟨k1,g1,z1⟩:=news e1
 obtain ⟨k2,g2,z2⟩:=news e2
 have k12:=k1.trans k2
 have g12:=k2.bk (by omega) g1
 have err:∀ {h3} {s:ByteArray} {x e:Int},Nw h2 h3→e≠0→WC Tryz.prog 125 [.string s,.int .i64 x,.int .i64 e] h3 (fun v1 h3=>∃ (A2:Option Addr) (n2:Nat) (K2:Nat) (x4:Int),v1 = .agg #[.slice A2 n2 K2,.int .i64 x4]∧∃ h4:AH,stC h3 h1.next 0 [.slice A2 n2 K2,.int .i64 x4]=some h4∧∃ (A3:Option Addr) (n3:Nat) (K3:Nat) (x5:Int),ldN h4 h1.next 0 2=some [.slice A3 n3 K3,.int .i64 x5]∧Q (.agg #[.slice A3 n3 K3,.int .i64 x5]) h4):=fun {h3 s x e} k3 he=>
  aAt fun A' h' s' k'=>⟨_,_,_,_,rfl,out2 ((k3.trans k').bk (by omega) g2) fun h4 m4=>hK _ _ _ _ h4 (m4.is_nw ((k12.trans k3).trans k') fun z hz=>by omega) (fun h=>absurd h he) fun _=>⟨_,_,rfl,s'.off m4 fun z hz e=>by have:=k3.next; omega⟩⟩
 refine ⟨p,ldC_of g12 rfl,fun _=>err (Nw.refl _) (by decide),fun p0=>⟨p,ldC_of g12 rfl,fun _=>err (Nw.refl _) (by decide),fun p1=>⟨q,ldC_of g12 rfl,fun _=>err (Nw.refl _) (by decide),fun q0=>⟨q,ldC_of g12 rfl,fun _=>err (Nw.refl _) (by decide),fun q1=>?_⟩⟩⟩⟩
 have hm:0≤p * q∧p * q≤16 * 16:=⟨Int.mul_nonneg (by omega) (by omega),Int.mul_le_mul (by omega) (by omega) (by omega) (by omega)⟩
 refine ⟨_,_,_,ldC_of g12 rfl,p,ldC_of g12 rfl,q,ldC_of g12 rfl,_,wr_ok (by omega) (by omega),fun heq=>?_,fun _=>err (Nw.refl _) (by decide)⟩
 refine ⟨fun m x h3=>∃ i:Nat,x=i∧i≤n∧m=n - i∧Nw h2 h3∧∀ c∈xs.take i,weightB c=true,n,⟨0,rfl,Nat.zero_le _,rfl,Nw.refl _,by simp⟩,?_⟩
 rintro m x h3 ⟨i,rfl,hi,hmi,k3,hw⟩
 refine ⟨_,_,_,ldC_of (k3.bk (by omega) g12) rfl,fun hlt=>?_,fun hge=>?_⟩
 ·obtain ⟨b',o,y,hA,-,-,hy,e0⟩:=(hs.nw (k12.trans k3)).int (k:=i) (by omega)
  refine ⟨_,_,_,ldC_of (k3.bk (by omega) g12) rfl,i,rfl,b',o,hA,by omega,_,e0,aRefWeight ⟨_,rfl,fun ht=>⟨_,wrS (by omega),n - (i+1),by omega,i+1,rfl,by omega,rfl,k3,fun c hc=>?_⟩,fun _=>⟨_,wr_ok (by omega) (by omega),err k3 (by decide)⟩⟩⟩
  rw [List.take_add_one,hy,List.mem_append] at hc
  rcases hc with hc | hc
  ·exact hw c hc
  ·simp at hc; subst hc; exact ht
 ·obtain rfl:i=n:=by omega
  rw [List.take_of_length_le (by omega)] at hw
  exact out2 (k3.bk (by omega) g2) fun h4 m4=>hK _ _ _ _ h4 (m4.is_nw (k12.trans k3) fun z hz=>by omega) (fun _=>⟨by omega,by omega,by omega,hw⟩) (fun h=>absurd rfl h)
theorem aWithin {s:ByteArray} {x e:Int} {G:Nat→Prop} {w:ByteArray × Int} (hs:Sz Rc.at_ G h A 1 K [w]) (he:e≠0) (hK:∀ A' n' K' h',Nw h h'→Q (.agg #[.slice A' n' K',.int .i64 e]) h') :
  WC Tryz.prog 140 [.string s,.int .i64 x,.agg #[.slice A 1 K,.int .i64 e]] h Q:=by
 refine w_ref6_Within fun h1 e1 h2 e2=>?_
 obtain ⟨k1,g1,z1⟩:=news e1
 obtain ⟨k2,g2,z2⟩:=news e2
 refine ⟨e,ldC_of (k2.bk (by omega) g1) rfl,fun h=>absurd h he,fun _ h4 e4=>?_⟩
 obtain ⟨k4,g4,z4⟩:=news e4
 have k14:=(k1.trans k2).trans k4
 have g14:=(k2.trans k4).bk (by omega) g1
 have hB:OwnP Rc.at_ h4 (ownB (some ⟨h2.next,0,none⟩)) 315 (some ⟨h2.next,0,none⟩) 1 (2 * 1) [(s,x)]:=OwnP.lit (r:=Rc.at_) g4 rfl (by omega) rfl rfl (by simp [flat]) fun k y hy=>by
  match k,hy with
  | 0,hy=>obtain rfl:=Option.some.inj hy; rfl
 obtain ⟨A',K',h5,y1,y2,y3,y4⟩:=app_row (bytes:=24) free_at (by kernel_rfl) hB (hs.nw k14) (by omega) (by omega)
 have no:∀ z,z≠h2.next→¬ ownB (some ⟨h2.next,0,none⟩) z:=fun z hz h=>hz h
 refine ⟨_,_,_,ldC_of g14 rfl,e,ldC_of g14 rfl,A',_,K',h5,y1,ldC_of (y3.bk (by omega) (no _ (by omega)) g14) rfl,out2 (y3.bk (by omega) (no _ (by omega)) ((k4.bk (by omega) g2))) fun h6 m6=>hK _ _ _ h6 ?_⟩
 exact m6.is_nw (y3.is_nw k14 fun z hz=>by have:z=h2.next:=hz; omega) fun z hz=>by omega
end
end Eva
end
section
open Go Go.RowKit
namespace Eva
structure NetZ (h:AH) (F:Nat→Prop) (Av:Option Addr) (nv Kv:Nat) (Aa:Option Addr) (na Ka:Nat) (At:Option Addr) (nt Kt:Nat) (N:NetD):Prop where
 vs:Sz cTri F h Av nv Kv N.vs
 xa:Sz cTri F h Aa na Ka N.xa
 ts:Sz Rc.tableZ F h At nt Kt N.ts
section
variable {h h':AH} {F:Nat→Prop} {Q:Value→AH→Prop} {Av Aa At:Option Addr} {nv Kv na Ka nt Kt:Nat} {N:NetD}
theorem NetZ.nw (Z:NetZ h F Av nv Kv Aa na Ka At nt Kt N) (a:Nw h h'):NetZ h' F Av nv Kv Aa na Ka At nt Kt N:=⟨Z.vs.nw a,Z.xa.nw a,Z.ts.nw a⟩
theorem NetZ.old (Z:NetZ h F Av nv Kv Aa na Ka At nt Kt N):NetZ h (fun z=>z<h.next) Av nv Kv Aa na Ka At nt Kt N:=⟨Z.vs.mono fun z _ hz=>hz,Z.xa.mono fun z _ hz=>hz,Z.ts.mono fun z _ hz=>hz⟩
theorem NetZ.off (Z:NetZ h F Av nv Kv Aa na Ka At nt Kt N) {S:Nat→Prop} (a:Mt S h h') (hS:∀ z,F z→¬ S z):NetZ h' F Av nv Kv Aa na Ka At nt Kt N:=⟨Z.vs.off a hS,Z.xa.off a hS,Z.ts.off a hS⟩
theorem aRefNet (Z0:NetZ h F Av nv Kv Aa na Ka At nt Kt N) (hc:∀ t∈N.ts,t.2.2.length≤10000) (hK:∀ A' n' K' e h',Nw h h'→(e=0→N.Ok)→Q (.agg #[.slice A' n' K',.int .i64 e]) h') :
  WC Tryz.prog 70 [.agg #[.slice Av nv Kv,.slice Aa na Ka,.slice At nt Kt]] h Q:=by
 have Z:=Z0.old
 have lv:=Z.vs.len
 have la:=Z.xa.len
 have lt:=Z.ts.len
 refine w_ref6_CheckNet fun h1 e1 h2 e2=>?_
 obtain ⟨k1,g1,z1⟩:=news e1
 obtain ⟨k2,g2,z2⟩:=news e2
 have k12:=k1.trans k2
 have g12:=k2.bk (by omega) g1
 have errB:∀ {h3} {s:ByteArray} {x e:Int},Nw h h3→Bk h3 h1.next [.slice none 0 0,.int .i64 0] 156→h1.next<h3.next→e≠0→WC Tryz.prog 125 [.string s,.int .i64 x,.int .i64 e] h3 (fun v1 h3=>∃ (A2:Option Addr) (n2:Nat) (K2:Nat) (x4:Int),v1 = .agg #[.slice A2 n2 K2,.int .i64 x4]∧∃ h4:AH,stC h3 h1.next 0 [.slice A2 n2 K2,.int .i64 x4]=some h4∧∃ (A3:Option Addr) (n3:Nat) (K3:Nat) (x5:Int),ldN h4 h1.next 0 2=some [.slice A3 n3 K3,.int .i64 x5]∧Q (.agg #[.slice A3 n3 K3,.int .i64 x5]) h4):=fun {h3 s x e} k3 b3 l3 he=>
  aAt fun A' h' s' k'=>⟨_,_,_,_,rfl,out2 (k'.bk l3 b3) fun h4 m4=>hK _ _ _ _ h4 (m4.is_nw (k3.trans k') fun z hz=>by omega) (fun h=>absurd h he)⟩
 have err:∀ {h3} {s:ByteArray} {x e:Int},Nw h2 h3→e≠0→WC Tryz.prog 125 [.string s,.int .i64 x,.int .i64 e] h3 (fun v1 h3=>∃ (A2:Option Addr) (n2:Nat) (K2:Nat) (x4:Int),v1 = .agg #[.slice A2 n2 K2,.int .i64 x4]∧∃ h4:AH,stC h3 h1.next 0 [.slice A2 n2 K2,.int .i64 x4]=some h4∧∃ (A3:Option Addr) (n3:Nat) (K3:Nat) (x5:Int),ldN h4 h1.next 0 2=some [.slice A3 n3 K3,.int .i64 x5]∧Q (.agg #[.slice A3 n3 K3,.int .i64 x5]) h4):=fun {h3 s x e} k3 he=>errB (k12.trans k3) (k3.bk (by omega) g2) (by have:=k3.next; omega) he
 refine ⟨_,_,_,ldC_of g12 rfl,fun _=>err (Nw.refl _) (by decide),fun n0=>⟨_,_,_,ldC_of g12 rfl,fun _=>err (Nw.refl _) (by decide),fun n1=>⟨_,_,_,ldC_of g12 rfl,fun _=>err (Nw.refl _) (by decide),fun n2=>?_⟩⟩⟩
 refine ⟨fun m x h9=>∃ i:Nat,x=i∧i≤nt∧m=nt - i∧Nw h2 h9∧∀ t∈N.ts.take i,TableOk t.1 t.2.1 t.2.2,nt,⟨0,rfl,Nat.zero_le _,rfl,Nw.refl _,by simp⟩,?_⟩
 rintro m x h9 ⟨i,rfl,hi,hm,k9,ht9⟩
 refine ⟨_,_,_,ldC_of (k9.bk (by omega) g12) rfl,fun hlt=>?_,fun hge=>?_⟩
 ·obtain ⟨b',o',p,q,A',n',K',zs,hA',-,-,htt,f0,f1,f2,sz⟩:=(Z.nw (k12.trans k9)).ts.tableZ (k:=i) (by omega)
  have hcc:=hc _ (List.mem_of_getElem? htt)
  have hzl:=sz.len
  simp only at hcc
  refine ⟨_,_,_,ldC_of (k9.bk (by omega) g12) rfl,i,rfl,b',o',hA',by omega,_,_,_,_,_,ldN3' f0 f1 f2,aRefTable sz (by omega) fun A16 n16 K16 e h10 k10 hok hbad=>⟨_,_,_,_,rfl,fun h11 e11=>?_⟩⟩
  obtain ⟨h12,s12,k12',g12',z12⟩:=box_st (vs:=[.slice A16 n16 K16,.int .i64 e]) e11 rfl (by simp [flat])
  have kk:=(k9.trans k10).trans k12'
  refine ⟨h12,s12,e,ldC_of g12' rfl,fun he=>⟨_,wrS (by omega),nt - (i+1),by omega,i+1,rfl,by omega,rfl,kk,fun t hm'=>?_⟩,fun he=>?_⟩
  ·rw [List.take_add_one,htt,List.mem_append] at hm'
   rcases hm' with hm' | hm'
   ·exact ht9 t hm'
   ·simp at hm'; subst hm'; exact hok he
  ·obtain ⟨G,w,hn16,sw⟩:=hbad he
   subst hn16
   refine ⟨_,_,_,_,ldN2 (ldC_of g12' rfl) (ldC_of g12' rfl),aWithin (sw.nw k12') he fun A18 n18 K18 h13 k13=>⟨_,_,_,_,rfl,out2 ((kk.trans k13).bk (by omega) g2) fun h14 m14=>hK _ _ _ _ h14 (m14.is_nw ((k12.trans kk).trans k13) fun z hz=>by omega) (fun h=>absurd h he)⟩⟩
 ·obtain rfl:i=nt:=by omega
  rw [List.take_of_length_le (by omega)] at ht9
  refine ⟨fun m x h15=>∃ j:Nat,x=j∧j≤nv∧m=nv - j∧Nw h2 h15∧∀ v∈N.vs.take j,coordB v.1=true∧coordB v.2.1=true∧0≤v.2.2∧v.2.2<N.ts.length,nv,⟨0,rfl,Nat.zero_le _,rfl,k9,by simp⟩,?_⟩
  rintro m' x h15 ⟨j,rfl,hj,hm',k15,hv15⟩
  have z15:=k15.next
  refine ⟨_,_,_,ldC_of (k15.bk (by omega) g12) rfl,fun hlt=>?_,fun hge'=>?_⟩
  ·obtain ⟨b,o,x,y,z,hA,-,-,hx,e0,e1',e2'⟩:=(Z.nw (k12.trans k15)).vs.tri (k:=j) (by omega)
   refine ⟨_,_,_,ldC_of (k15.bk (by omega) g12) rfl,j,rfl,b,o,hA,by omega,_,_,_,ldN3' e0 e1' e2',fun h16 e16=>?_⟩
   obtain ⟨h17,s17,k17,g17,z17⟩:=box_st (vs:=[.int .i64 x,.int .i64 y,.int .i64 z]) e16 rfl (by simp [flat])
   have kk:=k15.trans k17
   refine ⟨h17,s17,x,ldC_of g17 rfl,aRefCoord ⟨_,rfl,fun c1=>⟨y,ldC_of g17 rfl,aRefCoord ⟨_,rfl,fun c2=>⟨z,ldC_of g17 rfl,fun _=>err kk (by decide),fun c3=>⟨z,ldC_of g17 rfl,_,_,_,ldC_of (kk.bk (by omega) g12) rfl,fun _=>err kk (by decide),fun c4=>⟨_,wrS (by omega),nv - (j+1),by omega,j+1,rfl,by omega,rfl,kk,fun v hv=>?_⟩⟩⟩,fun _=>err kk (by decide)⟩⟩,fun _=>err kk (by decide)⟩⟩
   rw [List.take_add_one,hx,List.mem_append] at hv
   rcases hv with hv | hv
   ·exact hv15 v hv
   ·simp at hv; subst hv; exact ⟨c1,c2,by simp only; omega,by simp only; omega⟩
  ·obtain rfl:j=nv:=by omega
   rw [List.take_of_length_le (by omega)] at hv15
   refine ⟨_,_,_,ldC_of (k15.bk (by omega) g12) rfl,by omega,fun h28 e28=>?_⟩
   obtain ⟨k28,g28,z28⟩:=news e28
   refine ⟨_,_,_,ldC_of ((k15.trans k28).bk (by omega) g12) rfl,by omega,fun h29 e29=>?_⟩
   obtain ⟨k29,g29,z29⟩:=news e29
   rw [rep_one] at g28 g29
   have k229:=(k15.trans k28).trans k29
   have z229:=k229.next
   refine ⟨fun m x h30=>∃ l:Nat,x=l∧l≤na∧m=na - l∧Bk h30 h15.next ((cntL toOf' N.xa j l).map (Value.int .i64)) 3∧Bk h30 h28.next ((cntL frOf N.xa j l).map (Value.int .i64)) 3∧Mt (fun z=>z=h15.next∨z=h28.next) h29 h30∧∀ a∈N.xa.take l,(0≤a.1∧a.1<N.vs.length)∧(0≤a.2.1∧a.2.1<N.vs.length)∧weightB a.2.2=true,na,⟨0,rfl,Nat.zero_le _,rfl,by rw [cntL_zero,List.map_replicate]; exact k29.bk (by omega) g28,by rw [cntL_zero,List.map_replicate]; exact g29,Mt.refl _ _,by simp⟩,?_⟩
   rintro m3 x h30 ⟨l,rfl,hl,hm3,b30,c30,m30,ha30⟩
   have z30:=m30.next
   have k030:Nw h h30:=m30.is_nw (k12.trans k229) fun z hz=>by omega
   have g30:Bk h30 h.next [.slice Av j Kv,.slice Aa na Ka,.slice At i Kt] 26:=m30.bk (by omega) (by omega) (k229.bk (by omega) g12)
   have r30:Bk h30 h1.next [.slice none 0 0,.int .i64 0] 156:=m30.bk (by omega) (by omega) (k229.bk (by omega) g2)
   refine ⟨_,_,_,ldC_of g30 rfl,fun hlt=>?_,fun hge3=>?_⟩
   ·obtain ⟨b,o,x,y,z,hA,-,-,hx,e0,e1',e2'⟩:=(Z.nw k030).xa.tri (k:=l) (by omega)
    refine ⟨_,_,_,ldC_of g30 rfl,l,rfl,b,o,hA,by omega,_,_,_,ldN3' e0 e1' e2',fun h31 e31=>?_⟩
    obtain ⟨h32,s32,k32,g32,z32⟩:=box_st (vs:=[.int .i64 x,.int .i64 y,.int .i64 z]) e31 rfl (by simp [flat])
    have er:∀ {s:ByteArray} {x e:Int},e≠0→_:=fun {s x e} he=>errB (s:=s) (x:=x) (k030.trans k32) (k32.bk (by omega) r30) (by omega) he
    have G32:=k32.bk (by omega) g30
    refine ⟨h32,s32,x,ldC_of g32 rfl,fun _=>er (by decide),fun x0=>⟨x,ldC_of g32 rfl,_,_,_,ldC_of G32 rfl,fun _=>er (by decide),fun x1=>⟨y,ldC_of g32 rfl,fun _=>er (by decide),fun y0=>⟨y,ldC_of g32 rfl,_,_,_,ldC_of G32 rfl,fun _=>er (by decide),fun y1=>⟨z,ldC_of g32 rfl,aRefWeight ⟨_,rfl,fun hw=>?_,fun _=>er (by decide)⟩⟩⟩⟩⟩⟩
    obtain ⟨u,rfl⟩:=Int.eq_ofNat_of_zero_le (show 0≤x by omega)
    obtain ⟨v,rfl⟩:=Int.eq_ofNat_of_zero_le (show 0≤y by omega)
    have hu:u<j:=by omega
    have hv:v<j:=by omega
    have c1:=cnt_le toOf' N.xa l v
    have c2:=cnt_le frOf N.xa l u
    have B32:=k32.bk (by omega) b30
    have C32:=k32.bk (by omega) c30
    obtain ⟨h42,s42,b42,z42,o42⟩:=st_one (v:=.int .i64 (((N.xa.take l).countP (fun a=>frOf a == (u:Int)):Int)+1)) C32 (o:=0+u) (by simp [cntL_len]; omega) rfl
    have B42:=(o42 _ (by omega)).trans B32
    have g42:=(o42 _ (by omega)).trans g32
    obtain ⟨h43,s43,b43,z43,o43⟩:=st_one (v:=.int .i64 (((N.xa.take l).countP (fun a=>toOf' a == (v:Int)):Int)+1)) B42 (o:=0+v) (by simp [cntL_len]; omega) rfl
    refine ⟨(u:Int),ldC_of g32 rfl,u,rfl,hu,(((N.xa.take l).countP (fun a=>frOf a == (u:Int)):Nat):Int),?_,_,wr_ok (by omega) (by omega),hu,h42,s42,_,ldC_of g42 rfl,v,rfl,hv,(((N.xa.take l).countP (fun a=>toOf' a == (v:Int)):Nat):Int),?_,_,wr_ok (by omega) (by omega),hv,h43,s43,_,wrS (by omega),na - (l+1),by omega,l+1,rfl,by omega,rfl,?_,?_,?_,fun a ha=>?_⟩
    ·rw [ldC_bk C32,Nat.zero_add,List.getElem?_map,cntL_get hu]; rfl
    ·rw [ldC_bk B42,Nat.zero_add,List.getElem?_map,cntL_get hv]; rfl
    ·rw [cntL_succ (f:=toOf') hx rfl hv,List.map_set]
     rw [Nat.zero_add] at b43
     exact b43
    ·rw [cntL_succ (f:=frOf) hx rfl hu,List.map_set]
     rw [Nat.zero_add] at b42
     exact (o43 _ (by omega)).trans b42
    ·exact ⟨by omega,fun z hz hn=>(o43 z (fun e=>hn (.inl e))).trans ((o42 z (fun e=>hn (.inr e))).trans ((k32.get z (by omega)).trans (m30.get z hz hn)))⟩
    ·rw [List.take_add_one,hx,List.mem_append] at ha
     rcases ha with ha | ha
     ·exact ha30 a ha
     ·simp at ha; subst ha; exact ⟨⟨by simp only; omega,by simp only; omega⟩,⟨by simp only; omega,by simp only; omega⟩,hw⟩
   ·obtain rfl:l=na:=by omega
    have hin:N.xa.take l=N.xa:=List.take_of_length_le (by omega)
    rw [hin] at ha30
    refine ⟨fun m x h46=>∃ y:Nat,x=y∧y≤j∧m=j - y∧Nw h30 h46∧∀ (q:Nat) v t,q<y→N.vs[q]? = some v→N.ts[v.2.2.toNat]? = some t→(N.xa.countP fun a=>toOf' a == (q:Int))≤16∧(N.xa.countP fun a=>frOf a == (q:Int))≤16∧t.1=(N.xa.countP fun a=>toOf' a == (q:Int):Nat)∧t.2.1=(N.xa.countP fun a=>frOf a == (q:Int):Nat),j,⟨0,rfl,Nat.zero_le _,rfl,Nw.refl _,fun q v t h=>absurd h (by omega)⟩,?_⟩
    rintro m4 x h46 ⟨y,rfl,hy,hm4,k46,hd46⟩
    have z46:=k46.next
    have G46:=k46.bk (by omega) g30
    refine ⟨_,_,_,ldC_of G46 rfl,fun hlt=>?_,fun hge4=>?_⟩
    ·obtain ⟨b,o,vx,vy,vz,hA,-,-,hx,e0,e1',e2'⟩:=(Z.nw (k030.trans k46)).vs.tri (k:=y) (by omega)
     obtain ⟨-,-,t0,t1⟩:=hv15 _ (List.mem_of_getElem? hx)
     simp only at t0 t1
     obtain ⟨ty,rfl⟩:=Int.eq_ofNat_of_zero_le t0
     obtain ⟨b',o',p,q,A',n',K',zs,hA',-,-,htt,f0,f1,f2,sz⟩:=(Z.nw (k030.trans k46)).ts.tableZ (k:=ty) (by omega)
     refine ⟨_,_,_,ldC_of G46 rfl,_,_,_,ldC_of G46 rfl,y,rfl,b,o,hA,by omega,_,e2',ty,rfl,b',o',hA',by omega,_,_,_,_,_,ldN3' f0 f1 f2,fun h47 e47=>?_⟩
     obtain ⟨h48,s48,k48,g48,z48⟩:=box_st (vs:=[.int .i64 p,.int .i64 q,.slice A' n' K']) e47 rfl (by simp [flat])
     have kk:=k46.trans k48
     have er:∀ {s:ByteArray} {x e:Int},e≠0→_:=fun {s x e} he=>errB (s:=s) (x:=x) (k030.trans kk) (kk.bk (by omega) r30) (by omega) he
     have r1:ldC h48 h15.next (0+y)=some (.int .i64 ((N.xa.countP (fun a=>toOf' a == (y:Int)):Nat):Int)):=by
      rw [ldC_bk (kk.bk (by omega) b30),Nat.zero_add,List.getElem?_map,cntL_get (by omega),hin]; rfl
     have r2:ldC h48 h28.next (0+y)=some (.int .i64 ((N.xa.countP (fun a=>frOf a == (y:Int)):Nat):Int)):=by
      rw [ldC_bk (kk.bk (by omega) c30),Nat.zero_add,List.getElem?_map,cntL_get (by omega),hin]; rfl
     refine ⟨h48,s48,by omega,_,r1,fun _=>er (by decide),fun d1=>⟨by omega,_,r2,fun _=>er (by decide),fun d2=>⟨by omega,_,r1,p,ldC_of g48 rfl,fun d3=>⟨by omega,_,r2,q,ldC_of g48 rfl,fun d4=>⟨_,wrS (by omega),j - (y+1),by omega,y+1,rfl,by omega,rfl,kk,fun q' v t hq hv ht=>?_⟩,fun _=>er (by decide)⟩,fun _=>er (by decide)⟩⟩⟩
     by_cases e:q' = y
     ·subst e
      rw [hx] at hv
      obtain rfl:=Option.some.inj hv
      simp only [Int.toNat_natCast] at ht
      rw [htt] at ht
      obtain rfl:=Option.some.inj ht
      exact ⟨by omega,by omega,d3.symm,d4.symm⟩
     ·exact hd46 q' v t (by omega) hv ht
    ·obtain rfl:y=j:=by omega
     exact out2 (k46.bk (by omega) r30) fun h57 m57=>hK _ _ _ _ h57 (m57.is_nw (k030.trans k46) fun z hz=>by omega) fun _=>⟨by omega,by omega,by omega,ht9,hv15,ha30,fun q v t hv ht=>hd46 q v t (by have:=(List.getElem?_eq_some_iff.1 hv).1; omega) hv ht⟩
end
end Eva
end
section
open Go Go.RowKit
structure UpA (low row:List Int) (k:Nat) (up:List Int):Prop where
 here:∀ (v:Nat) (x y:Int),v<k→low[v]? = some x→row[v]? = some y→up[x.toNat]? = some y
 from_:∀ (c:Nat) (u:Int),up[c]? = some u→u = -1∨∃ v,v<k∧low[v]? = some (c:Int)∧row[v]? = some u
theorem UpA.next {low row up:List Int} {k c:Nat} {u r:Int} (h:UpA low row k up) (hl:low[k]? = some (c:Int)) (hr:row[k]? = some r) (hu:up[c]? = some u) (hok:u<0∨u=r) (hrow:∀ x∈row,0≤x):UpA low row (k+1) (up.set c r):=by
 have hcl:=(List.getElem?_eq_some_iff.1 hu).1
 refine ⟨fun v x y hv h1 h2=>?_,fun c' u' h1=>?_⟩
 ·by_cases hvk:v=k
  ·subst hvk
   rw [hl] at h1
   rw [hr] at h2
   obtain rfl:=Option.some.inj h1
   obtain rfl:=Option.some.inj h2
   rw [Int.toNat_natCast,List.getElem?_set_self hcl]
  ·have h3:=h.here v x y (by omega) h1 h2
   by_cases hx:x.toNat=c
   ·rw [hx] at h3 ⊢
    rw [hu] at h3
    have h3:=Option.some.inj h3
    have h4:=hrow y (List.mem_of_getElem? h2)
    rw [List.getElem?_set_self hcl]
    congr 1
    omega
   ·rw [List.getElem?_set_ne (by omega)]
    exact h3
 ·by_cases hc:c' = c
  ·subst hc
   rw [List.getElem?_set_self hcl] at h1
   obtain rfl:=Option.some.inj h1
   exact .inr ⟨k,by omega,hl,hr⟩
  ·rw [List.getElem?_set_ne (by omega)] at h1
   rcases h.from_ c' u' h1 with h2 | ⟨v,h2,h3,h4⟩
   ·exact .inl h2
   ·exact .inr ⟨v,by omega,h3,h4⟩
namespace Eva
section
variable {h h':AH} {F G:Nat→Prop} {Q:Value→AH→Prop} {A B:Option Addr} {n m K L:Nat} {xs ys low row:List Int}
theorem sl_to {g k:Nat} (hk:k≤n) (hn:0<n):∃ K',vSliceS Tryz.prog 3 (some ⟨g,0,none⟩) n (cx n) none (some k) none=some (.slice (some ⟨g,0,none⟩) k K'):=by
 obtain ⟨i,hi,hsz,-⟩:=tyB_parts tyI8
 unfold vSliceS
 rw [hi]
 have hc2:(cx n) / 2=n:=by unfold cx; omega
 have hp:Nat.beq ((cx n) % 2) 0=true:=by
  have:(cx n) % 2=0:=by unfold cx; omega
  rw [this]; rfl
 have b1:Nat.ble k ((cx n) / 2)=true:=Nat.ble_eq_true_of_le (by omega)
 have b2:Nat.ble 0 k=true:=rfl
 show ∃ K',cond (Option.isNone (none:Option Nat) || Option.isSome (some k)) (sliceV i.size (some ⟨g,0,none⟩) n (cx n) ((none:Option Nat).getD 0) (some k) none) none=some (.slice (some ⟨g,0,none⟩) k K')
 simp only [Option.isNone_none,Bool.true_or,cond_true,Option.getD_none]
 unfold sliceV
 simp only [Option.getD_some,b1,b2,Bool.and_self,cond_true,hp]
 unfold sliceX
 refine ⟨cx (cx n / 2 - 0),?_⟩
 have:addAt (some ⟨g,0,none⟩) (cx n / 2) 0 i.size=some ⟨g,0,none⟩:=by
  unfold addAt
  rw [hc2]
  have:Nat.beq n 0=false:=by
   cases hb:Nat.beq n 0 with
   | false=>rfl
   | true=>have:=Nat.eq_of_beq_eq_true hb; omega
  simp [this,Addr_add]
 rw [this,Nat.sub_zero]
theorem aContains (v:Int) (hs:Sa cI F h A n K xs) (hn:n≤100000) (hv:v ∉ xs) (hK:Q (.bool false) h):WC Tryz.prog 301 [.slice A n K,.int .i64 v] h Q:=by
 refine w_slices_Contains_int_int (w_slices_Index_int_int ⟨fun m x h1=>∃ i:Nat,x=i∧i≤n∧m=n - i∧h1=h,n,⟨0,rfl,Nat.zero_le _,rfl,rfl⟩,?_⟩)
 rintro m x h1 ⟨i,rfl,hi,hm,rfl⟩
 refine ⟨fun hlt=>?_,fun hge=>⟨_,rfl,fun h=>absurd h (by omega),fun _=>hK⟩⟩
 obtain ⟨b,o,y,hA,-,-,hy,e0⟩:=hs.int (k:=i) (by omega)
 refine ⟨i,rfl,b,o,hA,by omega,_,e0,fun he=>?_,fun he=>⟨_,(by rw [Int.natCast_succ]; exact wr_ok (by omega) (by omega):IntKind.i64.wrap ((i:Int)+1)=((i+1:Nat):Int)),n - (i+1),by omega,i+1,rfl,by omega,rfl,rfl⟩⟩
 subst he
 exact absurd (List.mem_of_getElem? hy) hv
theorem aSorted (hs:Sa cI F h A n K xs) (hn:n≤100000) (hr:Rising xs n) (hK:Q (.bool true) h):WC Tryz.prog 302 [.slice A n K] h Q:=by
 refine w_slices_IsSorted_int_int ⟨_,wr_ok (by omega) (by omega),fun m x h1=>∃ i:Nat,x=(i:Int) - 1∧i≤n∧m=i∧h1=h,n,⟨n,rfl,Nat.le_refl _,rfl,rfl⟩,?_⟩
 rintro m x h1 ⟨i,rfl,hi,hm,rfl⟩
 refine ⟨fun hlt=>?_,fun hge=>hK⟩
 obtain ⟨b,o,y,hA,-,-,hy,e0⟩:=hs.int (k:=i - 1) (by omega)
 obtain ⟨b',o',z,hA',-,-,hz,e0'⟩:=hs.int (k:=i - 2) (by omega)
 rw [hA] at hA'
 injection hA' with hA'
 injection hA' with hA1 hA2
 subst hA1 hA2
 have hle:=hr (i - 2) z y (by omega) hz (by rw [show i - 2+1=i - 1 by omega]; exact hy)
 refine ⟨i - 1,by omega,b,o,hA,by omega,_,e0,_,wr_ok (by omega) (by omega),i - 2,by omega,by omega,_,e0',aLess _ _ ⟨_,rfl,fun h=>absurd (of_decide_eq_true h) (by omega),fun _=>⟨_,wr_ok (by omega) (by omega),i - 1,by omega,i - 1,by omega,by omega,rfl,rfl⟩⟩⟩
theorem aTally (hs:Sa cI F h A n K row) (hn:n≤4096) (h1:InRow n row) (h2:FullRow row) (hK:∀ A' n' K' h',Nw h h'→Q (.tuple #[.slice A' n' K',.bool true]) h'):WC Tryz.prog 253 [.slice A n K] h Q:=by
 have hl:=hs.len
 refine w_part_tally ⟨by omega,fun h1' e1=>?_⟩
 obtain ⟨k1,g1,z1⟩:=news e1
 rw [rep_one] at g1
 refine ⟨fun m x y h2'=>∃ i:Nat,y=i∧i≤n∧m=n - i∧x=mostOf (row.take i) - 1∧Bk h2' h.next ((tal (row.take i) n).map (Value.int .i64)) 3∧Nw h h2'∧h.next<h2'.next,n,⟨0,rfl,Nat.zero_le _,rfl,by simp [mostOf],by rw [List.take_zero,tal_nil,List.map_replicate]; exact g1,k1,by omega⟩,?_⟩
 rintro m x y h2' ⟨i,rfl,hi,hm,rfl,b2,k2,lt2⟩
 have hm0:=mostOf_nonneg (row.take i)
 have hm1:mostOf (row.take i)≤n:=mostOf_le (by omega) fun x hx=>(h1 x (List.mem_of_mem_take hx)).2
 refine ⟨fun hlt=>?_,fun hge=>?_⟩
 ·obtain ⟨b,o,v,hA,-,-,hv,e0⟩:=(hs.nw k2).int (k:=i) (by omega)
  obtain ⟨v0,v1⟩:=h1 v (List.mem_of_getElem? hv)
  obtain ⟨c,rfl⟩:=Int.eq_ofNat_of_zero_le v0
  have hcn:c<n:=by omega
  have hmo:=mostOf_succ hv
  have hcnt:((row.take i).count (c:Int):Int)≤n:=by
   have:=List.count_le_length (a:=(c:Int)) (l:=row.take i)
   rw [List.length_take] at this
   omega
  obtain ⟨h3,s3,b3,z3,o3⟩:=st_one (v:=.int .i64 (((row.take i).count (c:Int):Int)+1)) b2 (o:=0+c) (by simp [tal_len]; omega) rfl
  refine ⟨i,rfl,b,o,hA,by omega,_,e0,fun h=>absurd h (by omega),fun _=>⟨fun h=>absurd h (by omega),fun _=>⟨c,rfl,hcn,((row.take i).count (c:Int):Int),?_,_,wr_ok (by omega) (by omega),hcn,h3,s3,_,rfl,_,(by rw [Int.natCast_succ]; exact wr_ok (by omega) (by omega):IntKind.i64.wrap ((i:Int)+1)=((i+1:Nat):Int)),n - (i+1),by omega,i+1,rfl,by omega,rfl,?_,?_,⟨by have:=k2.next; omega,fun b hb=>(o3 b (by omega)).trans (k2.get b hb)⟩,by omega⟩⟩⟩
  ·rw [ldC_bk b2,Nat.zero_add,List.getElem?_map,tal_get hcn]; rfl
  ·rw [hmo]; split <;> omega
  ·rw [Nat.zero_add,← List.map_set] at b3
   rw [List.take_add_one,hv]
   show Bk h3 h.next ((tal (row.take i ++ [(c:Int)]) n).map _) _
   rw [tal_succ hcn]
   exact b3
 ·obtain rfl:i=n:=by omega
  have hin:row.take i=row:=List.take_of_length_le (by omega)
  rw [hin] at b2 hm0 hm1 ⊢
  obtain ⟨q,hq⟩:∃ q:Nat,mostOf row=q:=⟨(mostOf row).toNat,by omega⟩
  refine ⟨_,wr_ok (by omega) (by omega),q,by omega,?_⟩
  rcases Nat.eq_zero_or_pos i with h0 | h0
  ·subst h0
   have hq0:q=0:=by omega
   subst hq0
   refine ⟨_,_,_,(by kernel_rfl:vSliceS Tryz.prog 3 (some ⟨h.next,0,none⟩) 0 (cx 0) none (some 0) none=some (.slice (some ⟨h.next,0,none⟩) 0 0)),aContains (F:=fun _=>True) (xs:=[]) 0 ⟨rfl,.inr ⟨_,_,rfl⟩,fun h=>absurd h (Nat.lt_irrefl _)⟩ (by omega) (by simp) ⟨_,rfl,fun h=>Bool.noConfusion h,fun _=>hK _ _ _ _ k2⟩⟩
  ·obtain ⟨K',hsl⟩:=sl_to (n:=i) (g:=h.next) (k:=q) (by omega) h0
   have hz:(0:Int) ∉ tal row q:=fun hm=>by
    obtain ⟨j,hj⟩:=List.getElem?_of_mem hm
    have hjl:=(List.getElem?_eq_some_iff.1 hj).1
    rw [tal_len] at hjl
    rw [tal_get hjl] at hj
    exact (full_iff h1).1 h2 j (by omega) (Option.some.inj hj)
   have hsa:Sa cI (fun b=>b=h.next) h2' (some ⟨h.next,0,none⟩) q K' (tal row q):=by
    have:=Sa.of_ints (F:=fun b=>b=h.next) (n:=i) (K:=K') (k:=.i64) b2 (tal_len _ _) rfl lt2
    refine ⟨tal_len _ _,.inr ⟨_,_,rfl⟩,fun _=>⟨h.next,0,rfl,rfl,lt2,fun k x hk=>?_⟩⟩
    have hkl:=(List.getElem?_eq_some_iff.1 hk).1
    rw [tal_len] at hkl
    refine ⟨[.int .i64 x],fun j u hu=>?_,rfl⟩
    match j,hu with
    | 0,hu=>
     obtain rfl:=Option.some.inj hu
     show ldC h2' h.next (0+(k * 1+0))=_
     rw [ldC_bk b2,Nat.mul_one,Nat.add_zero,Nat.zero_add,List.getElem?_map,tal_get (by omega),← tal_get hkl,hk]; rfl
   exact ⟨_,_,_,hsl,aContains 0 hsa (by omega) hz ⟨_,rfl,fun h=>Bool.noConfusion h,fun _=>hK _ _ _ _ k2⟩⟩
end
end Eva
end
section
open Go Go.RowKit
namespace Eva
section
variable {h h':AH} {F:Nat→Prop} {Q:Value→AH→Prop} {A:Option Addr} {n K:Nat} {p:List (List Int)} {row:List Int}
theorem aRefMost (hs:Sz cI F h A n K row) (hn:n≤4096) (hx:∀ x∈row,0≤x∧x<4096) (hK:Q (.int .i64 (mostOf row)) h):WC Tryz.prog 210 [.slice A n K] h Q:=by
 have ln:=hs.len
 refine w_ref16_most ⟨fun m x y h1=>∃ i:Nat,y=i∧i≤n∧m=n - i∧x=mostOf (row.take i)∧h1=h,n,⟨0,rfl,Nat.zero_le _,rfl,rfl,rfl⟩,?_⟩
 rintro m x y h1 ⟨i,rfl,hi,hm,rfl,rfl⟩
 refine ⟨fun hlt=>?_,fun hge=>?_⟩
 ·obtain ⟨b,o,v,hA,-,-,hv,e0⟩:=hs.int (k:=i) (by omega)
  have:=hx v (List.mem_of_getElem? hv)
  refine ⟨i,rfl,b,o,hA,by omega,_,e0,_,wr_ok (by omega) (by omega),_,rfl,_,wrS (by omega),n - (i+1),by omega,i+1,rfl,by omega,rfl,?_,rfl⟩
  rw [mostOf_succ hv]
  split <;> omega
 ·obtain rfl:i=n:=by omega
  rw [List.take_of_length_le (by omega)]
  exact hK
theorem aRefLevel {nv l:Nat} (hs0:Sz (Rc.sliceZ cI) F h A n K p) (hn:n≤6) (hnv:nv≤4096) (h1l:1≤l) (hl:l≤n) (hr:p[l - 1]? = some row) (hlow:∀ low,2≤l→p[l - 2]? = some low→low.length=nv)
  (hK:∀ e h',Nw h h'→(e=0→row.length=nv∧InRow nv row∧FullRow row∧∀ low,2≤l→p[l - 2]? = some low→NestRow low row)→Q (.int .i64 e) h') :
  WC Tryz.prog 143 [.int .i64 nv,.agg #[.slice A n K],.int .i64 l,.slice none 0 0] h Q:=by
 have hs:Sz (Rc.sliceZ cI) (fun z=>z<h.next) h A n K p:=hs0.mono fun z _ hz=>hz
 have ln:=hs.len
 refine w_ref16_checkLevel fun h1 e1=>?_
 obtain ⟨k1,g1,z1⟩:=news e1
 obtain ⟨b,o,A4,n4,K4,row',hA,hF,hb,hr',e0,s4⟩:=(hs.nw k1).rowZ (k:=l - 1) (by omega)
 rw [hr] at hr'
 obtain rfl:=Option.some.inj hr'
 have l4:=s4.len
 refine ⟨_,_,_,ldC_of g1 rfl,_,wr_ok (by omega) (by omega),l - 1,by omega,b,o,hA,by omega,A4,n4,K4,e0,fun heq=>?_,fun _=>hK _ h1 k1 (fun h=>absurd h (by decide))⟩
 have hn4:n4=nv:=by omega
 subst hn4
 refine ⟨fun m x h2=>∃ i:Nat,x=i∧i≤n4∧m=n4 - i∧h2=h1∧∀ x∈row.take i,0≤x∧x<n4,n4,⟨0,rfl,Nat.zero_le _,rfl,rfl,by simp⟩,?_⟩
 rintro m x h2 ⟨i,rfl,hi,hm,rfl,hin⟩
 refine ⟨fun hlt=>?_,fun hge=>?_⟩
 ·obtain ⟨b',o',x,hA',-,-,hx,f0⟩:=s4.int (k:=i) (by omega)
  refine ⟨i,rfl,b',o',hA',by omega,_,f0,fun _=>hK _ h2 k1 (fun h=>absurd h (by decide)),fun x0=>⟨by omega,_,f0,fun _=>hK _ h2 k1 (fun h=>absurd h (by decide)),fun x1=>⟨_,wrS (by omega),n4 - (i+1),by omega,i+1,rfl,by omega,rfl,rfl,fun y hy=>?_⟩⟩⟩
  rw [List.take_add_one,hx,List.mem_append] at hy
  rcases hy with hy | hy
  ·exact hin y hy
  ·simp at hy; subst hy; omega
 ·obtain rfl:i=n4:=by omega
  have hfull:row.take i=row:=List.take_of_length_le (by omega)
  rw [hfull] at hin
  have hm0:=mostOf_nonneg row
  have hm1:mostOf row≤i:=mostOf_le (by omega) fun x hx=>(hin x hx).2
  refine ⟨i,rfl,by omega,fun h3 e3=>?_⟩
  obtain ⟨k3,g3,z3⟩:=news e3
  rw [rep_one] at g3
  refine ⟨fun m x h4=>∃ j:Nat,x=j∧j≤i∧m=i - j∧Bk h4 h2.next ((tal (row.take j) i).map (Value.int .i64)) 3∧Nw h2 h4∧h2.next<h4.next,i,⟨0,rfl,Nat.zero_le _,rfl,by rw [List.take_zero,tal_nil,List.map_replicate]; exact g3,k3,by omega⟩,?_⟩
  rintro m' x h4 ⟨j,rfl,hj,hm',b4,k4,lt4⟩
  refine ⟨fun hlt=>?_,fun hge'=>?_⟩
  ·obtain ⟨b',o',x,hA',-,-,hx,f0⟩:=(s4.nw k4).int (k:=j) (by omega)
   obtain ⟨x0,x1⟩:=hin x (List.mem_of_getElem? hx)
   obtain ⟨c,rfl⟩:=Int.eq_ofNat_of_zero_le x0
   have hc:c<i:=by omega
   have hcnt:((row.take j).count (c:Int):Int)≤i:=by
    have:=List.count_le_length (a:=(c:Int)) (l:=row.take j)
    rw [List.length_take] at this
    omega
   obtain ⟨h5,s5,b5,z5,o5⟩:=st_one (v:=.int .i64 (((row.take j).count (c:Int):Int)+1)) b4 (o:=0+c) (by simp [tal_len]; omega) rfl
   refine ⟨j,rfl,b',o',hA',by omega,_,f0,c,rfl,hc,((row.take j).count (c:Int):Int),?_,_,wr_ok (by omega) (by omega),hc,h5,s5,_,wrS (by omega),i - (j+1),by omega,j+1,rfl,by omega,rfl,?_,⟨by have:=k4.next; omega,fun z hz=>(o5 z (by omega)).trans (k4.get z hz)⟩,by omega⟩
   ·rw [ldC_bk b4,Nat.zero_add,List.getElem?_map,tal_get hc]; rfl
   ·rw [Nat.zero_add,← List.map_set] at b5
    rw [List.take_add_one,hx]
    show Bk h5 h2.next ((tal (row.take j ++ [(c:Int)]) i).map _) _
    rw [tal_succ hc]
    exact b5
  ·obtain rfl:j=i:=by omega
   rw [hfull] at b4
   refine ⟨fun m x h6=>∃ c:Nat,x=c∧(c:Int)≤mostOf row∧m=(mostOf row).toNat - c∧h6=h4∧∀ d:Nat,d<c→(row.count (d:Int):Int)≠0,(mostOf row).toNat,⟨0,rfl,by omega,rfl,rfl,fun d h=>absurd h (by omega)⟩,?_⟩
   rintro m3 x h6 ⟨c,rfl,hc,hm3,rfl,hd⟩
   refine aRefMost (s4.nw k4) hnv (fun x hx=>by have:=hin x hx; omega) ⟨_,rfl,fun hlt=>?_,fun hge3=>?_⟩
   ·have hcj:c<j:=by omega
    refine ⟨c,rfl,hcj,(row.count (c:Int):Int),by rw [ldC_bk b4,Nat.zero_add,List.getElem?_map,tal_get hcj]; rfl,fun _=>hK _ h6 (k1.trans k4) (fun h=>absurd h (by decide)),fun hne=>⟨_,wrS (by omega),(mostOf row).toNat - (c+1),by omega,c+1,rfl,by omega,rfl,rfl,fun d hd'=>?_⟩⟩
    by_cases e:d=c
    ·subst e; exact hne
    ·exact hd d (by omega)
   ·have hfr:FullRow row:=(full_iff hin).2 fun c' hc'=>hd c' (by omega)
    have k6:=k1.trans k4
    refine ⟨fun h8=>h8=h6∧∀ low,2≤l→p[l - 2]? = some low→NestRow low row,?_,?_⟩
    ·rintro h8 ⟨rfl,hnest⟩
     have done:Q (.int .i64 0) h8:=hK 0 h8 k6 fun _=>⟨by omega,hin,hfr,hnest⟩
     refine ⟨fun m x h9=>x=0∧h9=h8,0,⟨rfl,rfl⟩,?_⟩
     rintro m4 x h9 ⟨rfl,rfl⟩
     exact ⟨fun _=>⟨fun h=>absurd h (by decide),fun _=>done⟩,fun _=>done⟩
    ·refine ⟨fun m x h10=>∃ a:Nat,x=a∧a≤j∧m=j - a∧h10=h6∧∀ low,2≤l→p[l - 2]? = some low→∀ (a' b':Nat) (x y x' y':Int),a' < a→low[a']? = some x→low[b']? = some y→row[a']? = some x'→row[b']? = some y'→x≤y→x'≤y',j,⟨0,rfl,Nat.zero_le _,rfl,rfl,fun low _ _ a' b' x y x' y' h=>absurd h (by omega)⟩,?_⟩
     rintro m5 x h10 ⟨a,rfl,ha,hm5,rfl,hna⟩
     refine ⟨fun hlt=>⟨fun hl1=>?_,fun hl1=>⟨rfl,fun low h=>absurd h (by omega)⟩⟩,fun hge5=>⟨rfl,fun low h2 hlo a' b' x y x' y' g1 g2 g3 g4 hxy=>hna low h2 hlo a' b' x y x' y' (by have:=(List.getElem?_eq_some_iff.1 g3).1; omega) g1 g2 g3 g4 hxy⟩⟩
     obtain ⟨b5,o5,A6,n6,K6,low,hA5,-,-,hlo,f5,s6⟩:=(hs.nw k6).rowZ (k:=l - 2) (by omega)
     have hll:=hlow low (by omega) hlo
     have l6:=s6.len
     refine ⟨fun m x h11=>∃ q:Nat,x=q∧q≤j∧m=j - q∧h11=h10∧∀ (b':Nat) (x y x' y':Int),b' < q→low[a]? = some x→low[b']? = some y→row[a]? = some x'→row[b']? = some y'→x≤y→x'≤y',j,⟨0,rfl,Nat.zero_le _,rfl,rfl,fun b' x y x' y' h=>absurd h (by omega)⟩,?_⟩
     rintro m6 x h11 ⟨q,rfl,hq,hm6,rfl,hnq⟩
     refine ⟨fun hlt'=>?_,fun hge6=>?_⟩
     ·obtain ⟨b6,o6,x,hA6,-,-,hx,fx⟩:=s6.int (k:=a) (by omega)
      obtain ⟨b7,o7,y,hA7,-,-,hy,fy⟩:=s6.int (k:=q) (by omega)
      obtain ⟨b8,o8,x',hA8,-,-,hx',fx'⟩:=(s4.nw k4).int (k:=a) (by omega)
      obtain ⟨b9,o9,y',hA9,-,-,hy',fy'⟩:=(s4.nw k4).int (k:=q) (by omega)
      rw [hA8] at hA9
      injection hA9 with hA9
      injection hA9 with q1 q2
      subst q1 q2
      have gp:=k4.bk (by omega) g1
      have next:(x≤y→x'≤y')→∃ x32,IntKind.i64.wrap ((q:Int)+1)=x32∧∃ m':Nat,m' < m6∧∃ q':Nat,x32=q'∧q'≤j∧m' = j - q'∧h11=h11∧∀ (b':Nat) (x y x' y':Int),b' < q'→low[a]? = some x→low[b']? = some y→row[a]? = some x'→row[b']? = some y'→x≤y→x'≤y':=fun hxy=>⟨_,wrS (by omega),j - (q+1),by omega,q+1,rfl,by omega,rfl,rfl,fun b' u v u' v' hb' g1 g2 g3 g4 huv=>by
       by_cases e:b' = q
       ·subst e
        obtain rfl:=Option.some.inj (hx.symm.trans g1)
        obtain rfl:=Option.some.inj (hy.symm.trans g2)
        obtain rfl:=Option.some.inj (hx'.symm.trans g3)
        obtain rfl:=Option.some.inj (hy'.symm.trans g4)
        exact hxy huv
       ·exact hnq b' u v u' v' (by omega) g1 g2 g3 g4 huv⟩
      refine ⟨_,_,_,ldC_of gp rfl,_,wr_ok (by omega) (by omega),l - 2,by omega,b5,o5,hA5,by omega,_,_,_,f5,a,rfl,b6,o6,hA6,by omega,_,fx,_,_,_,ldC_of gp rfl,_,wr_ok (by omega) (by omega),l - 2,by omega,b5,o5,hA5,by omega,_,_,_,f5,q,rfl,b7,o7,hA7,by omega,_,fy,fun hxy=>⟨b8,o8,hA8,by omega,_,fx',by omega,_,fy',fun _=>hK _ h11 k6 (fun h=>absurd h (by decide)),fun hle=>next fun _=>by omega⟩,fun hxy=>next fun h=>absurd h hxy⟩
     ·obtain rfl:q=j:=by omega
      refine ⟨_,wrS (by omega),q - (a+1),by omega,a+1,rfl,by omega,rfl,rfl,fun low' h2 hlo' a' b' x y x' y' ha' g1 g2 g3 g4 hxy=>?_⟩
      by_cases e:a' = a
      ·subst e
       obtain rfl:=Option.some.inj (hlo.symm.trans hlo')
       exact hnq b' x y x' y' (by have:=(List.getElem?_eq_some_iff.1 g4).1; omega) g1 g2 g3 g4 hxy
      ·exact hna low' h2 hlo' a' b' x y x' y' (by omega) g1 g2 g3 g4 hxy
end
end Eva
end
section
open Go Go.RowKit
def FewN (N:NetD):Prop:=N.vs.length≤80∧N.xa.length≤300∧N.ts.length≤80∧∀ t∈N.ts,t.2.2.length≤300
namespace Eva
section
variable {h h':AH} {F G:Nat→Prop} {Q:Value→AH→Prop} {A Av Aa At Ap:Option Addr} {n K nv Kv na Ka nt Kt np Kp:Nat} {N:NetD} {p:List (List Int)}
theorem aRefPart {v:Nat} (hs0:Sz (Rc.sliceZ cI) F h A n K p) (hK:∀ A' n' K' e h',Nw h h'→(e=0→PartOk v p)→Q (.agg #[.slice A' n' K',.int .i64 e]) h') :
  WC Tryz.prog 72 [.int .i64 v,.agg #[.slice A n K],.slice none 0 0] h Q:=by
 have hs:Sz (Rc.sliceZ cI) (fun z=>z<h.next) h A n K p:=hs0.mono fun z _ hz=>hz
 have ln:=hs.len
 refine w_ref16_CheckPart fun h1 e1 h2 e2=>?_
 obtain ⟨k1,g1,z1⟩:=news e1
 obtain ⟨k2,g2,z2⟩:=news e2
 have k12:=k1.trans k2
 have g12:=k2.bk (by omega) g1
 have err:∀ {h3} {s:ByteArray} {x e:Int},Nw h2 h3→e≠0→WC Tryz.prog 125 [.string s,.int .i64 x,.int .i64 e] h3 (fun v1 h3=>∃ (A2:Option Addr) (n2:Nat) (K2:Nat) (x4:Int),v1 = .agg #[.slice A2 n2 K2,.int .i64 x4]∧∃ h4:AH,stC h3 h1.next 0 [.slice A2 n2 K2,.int .i64 x4]=some h4∧∃ (A3:Option Addr) (n3:Nat) (K3:Nat) (x5:Int),ldN h4 h1.next 0 2=some [.slice A3 n3 K3,.int .i64 x5]∧Q (.agg #[.slice A3 n3 K3,.int .i64 x5]) h4):=fun {h3 s x e} k3 he=>
  aAt fun A' h' s' k'=>⟨_,_,_,_,rfl,out2 ((k3.trans k').bk (by omega) g2) fun h4 m4=>hK _ _ _ _ h4 (m4.is_nw ((k12.trans k3).trans k') fun z hz=>by omega) (fun h=>absurd h he)⟩
 refine ⟨fun h3=>h3=h2∧v≤4096∧n≤6∧n≠0,?_,fun h=>absurd h (by omega),fun v0=>⟨fun _=>err (Nw.refl _) (by decide),fun v1=>⟨_,_,_,ldC_of g12 rfl,fun _=>err (Nw.refl _) (by decide),fun n6=>⟨_,_,_,ldC_of g12 rfl,fun _=>err (Nw.refl _) (by decide),fun n0=>⟨fun h=>absurd h (by decide),fun _=>⟨rfl,by omega,by omega,by omega⟩⟩⟩⟩⟩⟩
 rintro h3 ⟨rfl,hv,hn6,hn0⟩
 refine ⟨fun m x h4=>∃ l:Nat,x=l∧1≤l∧l≤n+1∧m=n+1 - l∧Nw h3 h4∧∀ (k:Nat) (row:List Int),k+1<l→p[k]? = some row→row.length=v∧InRow v row∧FullRow row∧∀ low,1≤k→p[k - 1]? = some low→NestRow low row,n,⟨1,rfl,by omega,by omega,rfl,Nw.refl _,fun k row h=>absurd h (by omega)⟩,?_⟩
 rintro m x h4 ⟨l,rfl,hl1,hl,hm,k4,hok⟩
 have hs4:=hs.nw (k12.trans k4)
 refine ⟨_,_,_,ldC_of (k4.bk (by omega) g12) rfl,fun hle=>?_,fun hgt=>?_⟩
 ·have hr:p[l - 1]? = some (p[l - 1]'(by omega)):=List.getElem?_eq_getElem (by omega)
  refine ⟨_,_,_,ldN1 (ldC_of (k4.bk (by omega) g12) rfl),aRefLevel hs4 hn6 hv hl1 (by omega) hr (fun low h2 hlo=>(hok (l - 2) low (by omega) hlo).1) fun e h5 k5 hz=>⟨e,rfl,fun he=>⟨_,wrS (by omega),n+1 - (l+1),by omega,l+1,rfl,by omega,by omega,rfl,k4.trans k5,fun k row hk hrow=>?_⟩,fun he=>err (k4.trans k5) he⟩⟩
  by_cases e:k+1=l
  ·have hk':k=l - 1:=by omega
   subst hk'
   rw [hr] at hrow
   obtain rfl:=Option.some.inj hrow
   obtain ⟨y1,y2,y3,y4⟩:=hz he
   exact ⟨y1,y2,y3,fun low h1 hlo=>y4 low (by omega) (by rw [show l - 2=l - 1 - 1 by omega]; exact hlo)⟩
  ·exact hok k row (by omega) hrow
 ·have hl':l=n+1:=by omega
  refine out2 (k4.bk (by omega) g2) fun h5 m5=>hK _ _ _ _ h5 (m5.is_nw (k12.trans k4) fun z hz=>by omega) fun _=>?_
  have all:∀ x∈p,x.length=v∧InRow v x∧FullRow x:=fun x hx=>by
   obtain ⟨k,hk⟩:=List.getElem?_of_mem hx
   obtain ⟨y1,y2,y3,-⟩:=hok k x (by have:=(List.getElem?_eq_some_iff.1 hk).1; omega) hk
   exact ⟨y1,y2,y3⟩
  exact ⟨hv,by omega,by omega,fun x hx=>(all x hx).1,fun x hx=>(all x hx).2.1,fun x hx=>(all x hx).2.2,fun k l' r h1 h2=>(hok (k+1) r (by have:=(List.getElem?_eq_some_iff.1 h2).1; omega) h2).2.2.2 l' (by omega) (by rw [Nat.add_sub_cancel]; exact h1)⟩
theorem aFew13 (hs:Sz (Rc.sliceZ cI) F h A n K p) (hmx:n≤9223372036854775807) (hK:∀ b h',Nw h h'→(b=true→n≤10∧∀ x∈p,x.length≤60)→Q (.bool b) h'):WC Tryz.prog 71 [.agg #[.slice A n K]] h Q:=by
 have ln:=hs.len
 refine w_law13_Few fun h1 e1=>?_
 obtain ⟨k1,g1,z1⟩:=news e1
 refine ⟨fun m x h2=>∃ i:Nat,x=i∧i≤n∧m=n - i∧h2=h1∧∀ x∈p.take i,x.length≤60,n,⟨0,rfl,Nat.zero_le _,rfl,rfl,by simp⟩,?_⟩
 rintro m x h2 ⟨i,rfl,hi,hm,rfl,hx⟩
 refine ⟨_,_,_,ldC_of g1 rfl,fun hlt=>?_,fun hge=>⟨_,_,_,ldC_of g1 rfl,fun hle=>hK true h2 k1 fun _=>⟨by omega,fun x hm=>hx x (by rw [List.take_of_length_le (by omega)]; exact hm)⟩,fun _=>hK false h2 k1 fun h=>Bool.noConfusion h⟩⟩
 obtain ⟨b,o,A4,n4,K4,row,hA,-,-,hr,e0,s4⟩:=(hs.nw k1).rowZ (k:=i) (by omega)
 have l4:=s4.len
 have wi:IntKind.i64.wrap ((i:Int)+1)=((i+1:Nat):Int):=by
  have:=(List.getElem?_eq_some_iff.1 hr).1
  rw [Int.natCast_succ]; exact wr_ok (by omega) (by omega)
 refine ⟨_,_,_,ldC_of g1 rfl,i,rfl,b,o,hA,by omega,A4,n4,K4,e0,fun _=>hK false h2 k1 fun h=>Bool.noConfusion h,fun hle=>⟨_,wi,n - (i+1),by omega,i+1,rfl,by omega,rfl,rfl,fun y hy=>?_⟩⟩
 rw [List.take_add_one,hr,List.mem_append] at hy
 rcases hy with hy | hy
 ·exact hx y hy
 ·simp at hy; subst hy; omega
theorem aMay13 {v:Nat} (hs:Sz (Rc.sliceZ cI) F h A n K p) (hmx:n≤9223372036854775807) (hK:∀ b h',Nw h h'→(b=true→n≤10∧(∀ x∈p,x.length≤60)∧v≤60∧PartOk v p)→Q (.bool b) h'):WC Tryz.prog 26 [.int .i64 v,.agg #[.slice A n K]] h Q:=by
 refine w_law13_May fun h1 e1=>?_
 obtain ⟨k1,g1,z1⟩:=news e1
 refine ⟨_,_,_,ldN1 (ldC_of g1 rfl),aFew13 (hs.nw k1) hmx fun b h2 k2 hb=>⟨b,rfl,fun ht=>⟨fun h60=>⟨_,_,_,ldN1 (ldC_of (k2.bk (by omega) g1) rfl),aRefPart (hs.nw (k1.trans k2)) fun A' n' K' e h3 k3 he=>⟨_,_,_,_,rfl,fun h0=>hK true h3 ((k1.trans k2).trans k3) fun _=>⟨(hb ht).1,(hb ht).2,by omega,he h0⟩,fun _=>hK false h3 ((k1.trans k2).trans k3) fun h=>Bool.noConfusion h⟩⟩,fun _=>hK false h2 (k1.trans k2) fun h=>Bool.noConfusion h⟩,fun _=>hK false h2 (k1.trans k2) fun h=>Bool.noConfusion h⟩⟩
theorem aFew3 (Z:NetZ h F Av nv Kv Aa na Ka At nt Kt N) (hK:∀ b h',Nw h h'→(b=true→FewN N)→Q (.bool b) h'):WC Tryz.prog 69 [.agg #[.slice Av nv Kv,.slice Aa na Ka,.slice At nt Kt]] h Q:=by
 have lv:=Z.vs.len
 have la:=Z.xa.len
 have lt:=Z.ts.len
 refine w_law3_Few fun h1 e1=>?_
 obtain ⟨k1,g1,z1⟩:=news e1
 have no:∀ {h'},Nw h h'→Q (.bool false) h':=fun k=>hK false _ k fun h=>Bool.noConfusion h
 refine ⟨_,_,_,ldC_of g1 rfl,fun _=>no k1,fun n0=>⟨_,_,_,ldC_of g1 rfl,fun _=>no k1,fun n1=>⟨_,_,_,ldC_of g1 rfl,fun _=>no k1,fun n2=>?_⟩⟩⟩
 refine ⟨fun m x h2=>∃ i:Nat,x=i∧i≤nt∧m=nt - i∧h2=h1∧∀ t∈N.ts.take i,t.2.2.length≤300,nt,⟨0,rfl,Nat.zero_le _,rfl,rfl,by simp⟩,?_⟩
 rintro m x h2 ⟨i,rfl,hi,hm,rfl,hx⟩
 refine ⟨_,_,_,ldC_of g1 rfl,fun hlt=>?_,fun hge=>hK true h2 k1 fun _=>⟨by omega,by omega,by omega,fun t ht=>hx t (by rw [List.take_of_length_le (by omega)]; exact ht)⟩⟩
 obtain ⟨b',o',p',q',A',n',K',zs,hA',-,-,htt,f0,f1,f2,sz⟩:=(Z.nw k1).ts.tableZ (k:=i) (by omega)
 have l4:=sz.len
 refine ⟨_,_,_,ldC_of g1 rfl,i,rfl,b',o',hA',by omega,A',n',K',f2,fun _=>no k1,fun hle=>⟨_,wrS (by omega),nt - (i+1),by omega,i+1,rfl,by omega,rfl,rfl,fun y hy=>?_⟩⟩
 rw [List.take_add_one,htt,List.mem_append] at hy
 rcases hy with hy | hy
 ·exact hx y hy
 ·simp at hy; subst hy; simp only; omega
theorem aMay3 (Z:NetZ h F Av nv Kv Aa na Ka At nt Kt N) (hK:∀ b h',Nw h h'→(b=true→FewN N∧N.Ok)→Q (.bool b) h'):WC Tryz.prog 25 [.agg #[.slice Av nv Kv,.slice Aa na Ka,.slice At nt Kt]] h Q:=by
 refine w_law3_May fun h1 e1=>?_
 obtain ⟨k1,g1,z1⟩:=news e1
 have bN:∀ {h'},Nw h1 h'→ldN h' h.next 0 3=some [.slice Av nv Kv,.slice Aa na Ka,.slice At nt Kt]:=fun a=>ldN3' (ldC_of (a.bk (by omega) g1) rfl) (ldC_of (a.bk (by omega) g1) rfl) (ldC_of (a.bk (by omega) g1) rfl)
 refine ⟨_,_,_,_,_,_,_,_,_,bN (Nw.refl _),aFew3 (Z.nw k1) fun b h2 k2 hb=>⟨b,rfl,fun ht=>⟨_,_,_,_,_,_,_,_,_,bN k2,aRefNet (Z.nw (k1.trans k2)) (fun t hm=>by have:=(hb ht).2.2.2 t hm; omega) fun A' n' K' e h3 k3 he=>⟨_,_,_,_,rfl,fun h0=>hK true h3 ((k1.trans k2).trans k3) fun _=>⟨hb ht,he h0⟩,fun _=>hK false h3 ((k1.trans k2).trans k3) fun h=>Bool.noConfusion h⟩⟩,fun _=>hK false h2 (k1.trans k2) fun h=>Bool.noConfusion h⟩⟩
theorem aMay (Z:NetZ h F Av nv Kv Aa na Ka At nt Kt N) (hs:Sz (Rc.sliceZ cI) G h Ap np Kp p) (hmx:np≤9223372036854775807) (hK:∀ b h',Nw h h'→(b=true→FewN N∧N.Ok∧N.nv≤60∧np≤10∧(∀ x∈p,x.length≤60)∧PartOk N.nv p)→Q (.bool b) h') :
  WC Tryz.prog 5 [.agg #[.slice Av nv Kv,.slice Aa na Ka,.slice At nt Kt],.agg #[.slice Ap np Kp]] h Q:=by
 have lv:N.nv=nv:=Z.vs.len
 refine w_top_may fun h1 e1 h2 e2=>?_
 obtain ⟨k1,g1,z1⟩:=news e1
 obtain ⟨k2,g2,z2⟩:=news e2
 have k12:=k1.trans k2
 have g12:=k2.bk (by omega) g1
 refine ⟨_,_,_,_,_,_,_,_,_,ldN3' (ldC_of g12 rfl) (ldC_of g12 rfl) (ldC_of g12 rfl),aMay3 (Z.nw k12) fun b h3 k3 hb=>⟨b,rfl,fun ht=>⟨_,_,_,ldC_of (k3.bk (by omega) g12) rfl,_,_,_,ldN1 (ldC_of (k3.bk (by omega) g2) rfl),aMay13 (hs.nw (k12.trans k3)) hmx fun b' h4 k4 hb'=>⟨b',rfl,hK b' h4 ((k12.trans k3).trans k4) fun ht'=>?_⟩⟩,fun _=>hK false h3 (k12.trans k3) fun h=>Bool.noConfusion h⟩⟩
 obtain ⟨y1,y2,y3,y4⟩:=hb' ht'
 rw [lv]
 exact ⟨(hb ht).1,(hb ht).2,y3,y1,y2,y4⟩
end
end Eva
end
section
open Go Go.RowKit
namespace Eva
section
variable {h h':AH} {F G:Nat→Prop} {Q:Value→AH→Prop} {A B:Option Addr} {n m K L:Nat} {xs ys low row:List Int}
theorem aNested (hs:Sa cI F h A n K low) (ht:Sa cI G h B n L row) (hn:n≤4096) (h1:InRow n low) (h2:FullRow low) (h3:InRow n row) (hne:NestRow low row) (hK:∀ h',Nw h h'→Q (.bool true) h'):WC Tryz.prog 254 [.slice A n K,.slice B n L] h Q:=by
 have hl:=hs.len
 have hl':=ht.len
 refine w_part_nested ⟨by omega,fun h1' e1=>?_⟩
 obtain ⟨k1,g1,z1⟩:=news e1
 rw [rep_one] at g1
 refine ⟨fun m x h2'=>∃ i:Nat,x=i∧i≤n∧m=n - i∧Bk h2' h.next ((List.replicate i (-1:Int) ++ List.replicate (n - i) 0).map (Value.int .i64)) 3∧Nw h h2'∧h.next<h2'.next,n,⟨0,rfl,Nat.zero_le _,rfl,by rw [List.replicate_zero,List.nil_append,List.map_replicate]; exact g1,k1,by omega⟩,?_⟩
 rintro m x h2' ⟨i,rfl,hi,hm,b2,k2,lt2⟩
 refine ⟨fun hlt=>?_,fun hge=>?_⟩
 ·obtain ⟨h3',s3,b3,z3,o3⟩:=st_one (v:=.int .i64 (-1)) b2 (o:=0+i) (by simp; omega) rfl
  refine ⟨i,rfl,by omega,h3',s3,_,(by rw [Int.natCast_succ]; exact wr_ok (by omega) (by omega):IntKind.i64.wrap ((i:Int)+1)=((i+1:Nat):Int)),n - (i+1),by omega,i+1,rfl,by omega,rfl,?_,⟨by have:=k2.next; omega,fun b hb=>(o3 b (by omega)).trans (k2.get b hb)⟩,by omega⟩
  have e:List.replicate (i+1) (-1:Int) ++ List.replicate (n - (i+1)) 0=(List.replicate i (-1:Int) ++ List.replicate (n - i) 0).set i (-1):=by
   rw [List.set_append_right _ _ (by simp),List.length_replicate,Nat.sub_self,show n - i=(n - (i+1))+1 by omega,List.replicate_succ (n:=n - (i+1)),List.set_cons_zero,List.replicate_succ',List.append_assoc]
   rfl
  rw [e,List.map_set]
  rw [Nat.zero_add] at b3
  exact b3
 ·obtain rfl:i=n:=by omega
  rw [Nat.sub_self,List.replicate_zero,List.append_nil] at b2
  refine ⟨fun m x y h4=>∃ (v:Nat) (up:List Int),y=v∧v≤i∧m=i - v∧x=mostOf (low.take v) - 1∧up.length=i∧Bk h4 h.next (up.map (Value.int .i64)) 3∧UpA low row v up∧(∀ u∈up,-1≤u)∧Nw h h4∧h.next<h4.next,i,⟨0,_,rfl,Nat.zero_le _,rfl,by simp [mostOf],by simp,b2,⟨fun v x y h=>by omega,fun c u h=>.inl (List.eq_of_mem_replicate (List.mem_of_getElem? h))⟩,fun u h=>by have:=List.eq_of_mem_replicate h; omega,k2,lt2⟩,?_⟩
  rintro m x y h4 ⟨v,up,rfl,hv,hm,rfl,hul,b4,hup,hu1,k4,lt4⟩
  have hm0:=mostOf_nonneg (low.take v)
  have hm1:mostOf (low.take v)≤i:=mostOf_le (by omega) fun x hx=>(h1 x (List.mem_of_mem_take hx)).2
  refine ⟨fun hlt=>?_,fun hge=>?_⟩
  ·obtain ⟨b,o,x,hA,-,-,hx,e0⟩:=(hs.nw k4).int (k:=v) (by omega)
   obtain ⟨b',o',r,hB,-,-,hr,e1'⟩:=(ht.nw k4).int (k:=v) (by omega)
   obtain ⟨x0,x1⟩:=h1 x (List.mem_of_getElem? hx)
   obtain ⟨c,rfl⟩:=Int.eq_ofNat_of_zero_le x0
   have hcn:c<i:=by omega
   have hmo:=mostOf_succ hx
   obtain ⟨u,hu⟩:∃ u,up[c]? = some u:=⟨_,List.getElem?_eq_getElem (by omega)⟩
   have hub:=hu1 u (List.mem_of_getElem? hu)
   have rd:ldC h4 h.next (0+c)=some (.int .i64 u):=by
    rw [ldC_bk b4,Nat.zero_add,List.getElem?_map,hu]; rfl
   have hor:u<0∨u=r:=by
    rcases hup.from_ c u hu with h | ⟨v',-,g1,g2⟩
    ·exact .inl (by omega)
    ·exact .inr (hne.eq g1 hx g2 hr)
   obtain ⟨h5,s5,b5,z5,o5⟩:=st_one (v:=.int .i64 r) b4 (o:=0+c) (by simp; omega) rfl
   rw [Nat.zero_add,← List.map_set] at b5
   have fin:∃ x10,(if mostOf (low.take v) - 1<(c:Int) then (c:Int) else mostOf (low.take v) - 1)=x10∧∃ x11,IntKind.i64.wrap ((v:Int)+1)=x11∧∃ m':Nat,m' < m∧∃ (v':Nat) (up:List Int),x11=v'∧v'≤i∧m' = i - v'∧x10=mostOf (low.take v') - 1∧up.length=i∧Bk h5 h.next (up.map (Value.int .i64)) 3∧UpA low row v' up∧(∀ u∈up,-1≤u)∧Nw h h5∧h.next<h5.next:=by
    refine ⟨_,rfl,_,(by rw [Int.natCast_succ]; exact wr_ok (by omega) (by omega):IntKind.i64.wrap ((v:Int)+1)=((v+1:Nat):Int)),i - (v+1),by omega,v+1,up.set c r,rfl,by omega,rfl,?_,by simp [hul],b5,hup.next hx hr hu hor (fun x hx=>(h3 x hx).1),fun z hz=>?_,⟨by have:=k4.next; omega,fun b hb=>(o5 b (by omega)).trans (k4.get b hb)⟩,by omega⟩
    ·rw [hmo]; split <;> omega
    ·rcases List.mem_or_eq_of_mem_set hz with h | h
     ·exact hu1 z h
     ·have:=(h3 r (List.mem_of_getElem? hr)).1
      omega
   refine ⟨v,rfl,b,o,hA,by omega,_,e0,c,rfl,hcn,u,rd,fun hu0=>⟨hcn,u,rd,b',o',hB,by omega,_,e1',fun he=>⟨by omega,_,e1',hcn,h5,s5,fin⟩,fun he=>absurd (hor.resolve_left (by omega)) he⟩,fun hu0=>⟨b',o',hB,by omega,_,e1',hcn,h5,s5,fin⟩⟩
  ·obtain rfl:v=i:=by omega
   have hin:low.take v=low:=List.take_of_length_le (by omega)
   rw [hin] at hm0 hm1 ⊢
   obtain ⟨q,hq⟩:∃ q:Nat,mostOf low=q:=⟨(mostOf low).toNat,by omega⟩
   refine ⟨_,wr_ok (by omega) (by omega),q,by omega,?_⟩
   rcases Nat.eq_zero_or_pos v with h0 | h0
   ·subst h0
    have hq0:q=0:=by omega
    subst hq0
    refine ⟨_,_,_,(by kernel_rfl:vSliceS Tryz.prog 3 (some ⟨h.next,0,none⟩) 0 (cx 0) none (some 0) none=some (.slice (some ⟨h.next,0,none⟩) 0 0)),aSorted (F:=fun _=>True) (xs:=[]) ⟨rfl,.inr ⟨_,_,rfl⟩,fun h=>absurd h (Nat.lt_irrefl _)⟩ (by omega) (fun c y z h=>by omega) ⟨_,rfl,hK _ k4⟩⟩
   ·obtain ⟨K',hsl⟩:=sl_to (n:=v) (g:=h.next) (k:=q) (by omega) h0
    have hris:Rising up q:=by
     have:=(nest_iff (up:=up) h1 h2 (by omega) (fun a x y hx hy=>hup.here a x y (by have:=(List.getElem?_eq_some_iff.1 hx).1; omega) hx hy)).1 hne
     rwa [show (mostOf low).toNat=q by omega] at this
    have hsa:Sa cI (fun b=>b=h.next) h4 (some ⟨h.next,0,none⟩) q K' (up.take q):=by
     refine ⟨by rw [List.length_take]; omega,.inr ⟨_,_,rfl⟩,fun _=>⟨h.next,0,rfl,rfl,lt4,fun k x hk=>?_⟩⟩
     have hkl:=(List.getElem?_eq_some_iff.1 hk).1
     rw [List.length_take] at hkl
     rw [List.getElem?_take,if_pos (by omega)] at hk
     refine ⟨[.int .i64 x],fun j u hu=>?_,rfl⟩
     match j,hu with
     | 0,hu=>
      obtain rfl:=Option.some.inj hu
      show ldC h4 h.next (0+(k * 1+0))=_
      rw [ldC_bk b4,Nat.mul_one,Nat.add_zero,Nat.zero_add,List.getElem?_map,hk]; rfl
    refine ⟨_,_,_,hsl,aSorted hsa (by omega) (fun c y z hc hy hz=>?_) ⟨_,rfl,hK _ k4⟩⟩
    rw [List.getElem?_take,if_pos (by omega)] at hy hz
    exact hris c y z hc hy hz
theorem aPartCheck {p:List (List Int)} {nv:Nat} (hs:Sa cRows F h A n K p) (hp:PartOk nv p) (hK:∀ h',Nw h h'→Q .nilIface h'):WC Tryz.prog 196 [.int .i64 nv,.agg #[.slice A n K],.slice none 0 0] h Q:=by
 have hn:=hs.len
 have h6:=hp.few
 have h1:=hp.some_
 have hnv:=hp.nv_
 refine w_part_Check fun h1' e1 h2' e2=>?_
 obtain ⟨k1,g1,z1⟩:=news e1
 obtain ⟨k2,g2,z2⟩:=news e2
 have k12:=k1.trans k2
 refine ⟨A,n,K,ldC_of (k2.bk (by omega) g1) rfl,fun h=>absurd h (by omega),fun _=>⟨fun h=>absurd h (by omega),fun _=>⟨fun h=>absurd h (by omega),fun _=>⟨fun h=>absurd h (by omega),fun _=>⟨_,_,_,ldC_of g2 rfl,fun h=>absurd h (by decide),fun _=>⟨A,n,K,ldC_of (k2.bk (by omega) g1) rfl,?_⟩⟩⟩⟩⟩⟩
 refine ⟨fun m x h3=>∃ i:Nat,x=i∧i≤n∧m=n - i∧Nw h2' h3,n,⟨0,rfl,Nat.zero_le _,rfl,Nw.refl _⟩,?_⟩
 rintro m x h3 ⟨i,rfl,hi,hm,k3⟩
 refine ⟨fun hlt=>?_,fun hge=>hK h3 (k12.trans k3)⟩
 have hs3:=hs.nw (k12.trans k3)
 obtain ⟨b,o,A',n',K',row,hA,hF,hb,hr,e0,s0⟩:=hs3.row (k:=i) (by omega)
 have hm:=List.mem_of_getElem? hr
 have hrl:n' = nv:=by rw [← s0.len]; exact hp.rows _ hm
 subst hrl
 have wi:IntKind.i64.wrap ((i:Int)+1)=((i+1:Nat):Int):=by rw [Int.natCast_succ]; exact wr_ok (by omega) (by omega)
 refine ⟨i,rfl,b,o,hA,by omega,A',n',K',e0,fun h21 e21=>?_⟩
 obtain ⟨h22,s22,k22,g22,z22⟩:=box_st (vs:=[.int .i64 (i:Int)]) e21 rfl (by simp [flat])
 refine ⟨h22,s22,fun _=>aTally (s0.nw k22) hnv (hp.inr _ hm) (hp.full _ hm) fun A15 n15 K15 h23 k23=>⟨_,_,_,_,rfl,fun _=>⟨_,ldC_of (k23.bk (by omega) g22) rfl,fun hpos=>?_,fun hz=>?_⟩,fun h=>Bool.noConfusion h⟩,fun h=>absurd rfl h⟩
 ·have k323:=k3.trans (k22.trans k23)
  have hs23:=hs3.nw (k22.trans k23)
  obtain ⟨b',o',A2,n2,K2,low,hA',-,-,hlo,e0',s0'⟩:=hs23.row (k:=i - 1) (by omega)
  have hml:=List.mem_of_getElem? hlo
  have hll:n2=n':=by rw [← s0'.len]; exact hp.rows _ hml
  subst hll
  refine ⟨A,n,K,ldC_of ((k2.trans k323).bk (by omega) g1) rfl,_,ldC_of (k23.bk (by omega) g22) rfl,_,wr_ok (by omega) (by omega),i - 1,by omega,b',o',hA',by omega,A2,n2,K2,e0',aNested s0' (s0.nw (k22.trans k23)) hnv (hp.inr _ hml) (hp.full _ hml) (hp.inr _ hm) (hp.nest (i - 1) low row hlo (by rw [show i - 1+1=i by omega]; exact hr)) fun h24 k24=>⟨_,rfl,fun _=>⟨_,_,_,ldC_of ((k323.trans k24).bk (by omega) g2) rfl,fun h=>absurd h (by decide),fun _=>⟨_,wi,n - (i+1),by omega,i+1,rfl,by omega,rfl,k323.trans k24⟩⟩,fun h=>Bool.noConfusion h⟩⟩
 ·have k323:=k3.trans (k22.trans k23)
  exact ⟨_,_,_,ldC_of (k323.bk (by omega) g2) rfl,fun h=>absurd h (by decide),fun _=>⟨_,wi,n - (i+1),by omega,i+1,rfl,by omega,rfl,k323⟩⟩
end
end Eva
end
section
open Go Go.RowKit
def slotL (N:NetD) (p:List (List Int)) (k:Nat) (xs:List Nat) (s:Nat):List Nat:=if s % 2=0 then xs.filter (fun a=>decide (cel p k (N.to a)=s / 2)) else xs.filter (fun a=>decide (cel p k (N.fr a)=s / 2))
section
variable {N:NetD} {p:List (List Int)} {k:Nat}
theorem slotL_next (xs:List Nat) (a:Nat):upd (upd (slotL N p k xs) (cel p k (N.to a) * 2) (slotL N p k xs (cel p k (N.to a) * 2) ++ [a])) (cel p k (N.fr a) * 2+1) (upd (slotL N p k xs) (cel p k (N.to a) * 2) (slotL N p k xs (cel p k (N.to a) * 2) ++ [a]) (cel p k (N.fr a) * 2+1) ++ [a])=slotL N p k (xs ++ [a]):=by
 funext s
 have hne:cel p k (N.fr a) * 2+1≠cel p k (N.to a) * 2:=by omega
 unfold upd
 rw [if_neg hne]
 by_cases h1:s=cel p k (N.fr a) * 2+1
 ·subst h1
  rw [if_pos rfl]
  unfold slotL
  rw [if_neg (by omega),if_neg (by omega),List.filter_append]
  have:(cel p k (N.fr a) * 2+1) / 2=cel p k (N.fr a):=by omega
  simp [this]
 ·rw [if_neg h1]
  by_cases h2:s=cel p k (N.to a) * 2
  ·subst h2
   rw [if_pos rfl]
   unfold slotL
   rw [if_pos (by omega),if_pos (by omega),List.filter_append]
   have:(cel p k (N.to a) * 2) / 2=cel p k (N.to a):=by omega
   simp [this]
  ·rw [if_neg h2]
   unfold slotL
   by_cases h3:s % 2=0
   ·rw [if_pos h3,if_pos h3,List.filter_append]
    have:¬ cel p k (N.to a)=s / 2:=by omega
    simp [this]
   ·rw [if_neg h3,if_neg h3,List.filter_append]
    have:¬ cel p k (N.fr a)=s / 2:=by omega
    simp [this]
theorem slotL_ins (c:Nat):slotL N p k (takeN (N.crB p k) N.na) (c * 2)=N.ins p k c:=by
 unfold slotL
 rw [if_pos (by omega),show c * 2 / 2=c by omega]
 unfold takeN NetD.ins takeN
 rw [List.filter_filter]
 apply List.filter_congr
 intro a _
 unfold NetD.crB NetD.insB
 by_cases h1:cel p k (N.to a)=c
 ·simp [h1]
 ·simp [h1]
theorem slotL_outs (c:Nat):slotL N p k (takeN (N.crB p k) N.na) (c * 2+1)=N.outs p k c:=by
 unfold slotL
 rw [if_neg (by omega),show (c * 2+1) / 2=c by omega]
 unfold takeN NetD.outs takeN
 rw [List.filter_filter]
 apply List.filter_congr
 intro a _
 unfold NetD.crB NetD.outsB
 by_cases h1:cel p k (N.fr a)=c
 ·simp [h1,eq_comm]
 ·simp [h1]
theorem slotL_len (xs:List Nat) (s:Nat):(slotL N p k xs s).length≤xs.length:=by
 unfold slotL
 split <;> exact List.length_filter_le _ _
end
namespace Eva
section
variable {h h':AH} {Fa F Fp:Nat→Prop} {g:Nat} {N:NetD} {p:List (List Int)} {Q:Value→AH→Prop} {A:Option Addr} {n K:Nat}
theorem eqok1 {A:Option Addr} {n K:Nat} (h:EqOk (.slice A n K)):EqOk (.agg #[.slice A n K]):=by
 intro v hv
 have hv':v = .slice A n K:=by simpa using hv
 subst hv'
 cases A with
 | none=>trivial
 | some a=>exact h
theorem aGateOf (G:GrA h Fa F g N) (hp:PartOk N.nv p) (hs:Sa cRows Fp h A n K p)
  (hK:∀ A' n' K' h',Sa (Rc.slice Rc.gate) (fun b=>h.next≤b) h' A' n' K' ((List.range p.length).map fun j=>N.gatesL p (j+1))→Nw h h'→Q (.slice A' n' K') h'):WC Tryz.prog 214 [.pointer (some ⟨g,0,none⟩),.agg #[.slice A n K]] h Q:=by
 have hn:=hs.len
 have h6:=hp.few
 have hna:=G.few.2
 have hnv:=G.few.1
 refine w_gate_Of fun h1 e1=>?_
 obtain ⟨k1,g1,z1⟩:=news e1
 have box:∀ {h'},Nw h1 h'→ldN h' h.next 0 1=some [.slice A n K]:=fun a=>ldN1 (ldC_of (a.bk (by omega) g1) rfl)
 refine ⟨A,n,K,box (Nw.refl _),aVerts (G.nw k1) ⟨_,rfl,box (Nw.refl _),eqok1 hs.eqok,aPartCheck (hs.nw k1) hp fun h3 k3=>⟨none,rfl,fun _=>⟨A,n,K,ldC_of (k3.bk (by omega) g1) rfl,by omega,fun h4 e4=>?_⟩,fun t u h=>by cases h⟩⟩⟩
 obtain ⟨k4,g4,z4⟩:=news e4
 rw [rep_one] at g4
 have k14:=k3.trans k4
 have z1':=k14.next
 have z3:=k3.next
 refine ⟨A,n,K,ldC_of (k14.bk (by omega) g1) rfl,fun m x h5=>∃ (i:Nat) (B:Nat→Nat),x=i∧i≤n∧m=n - i∧Nw h1 h5∧h4.next≤h5.next ∧
  Bk h5 h3.next ((List.range n).map fun k=>if k<i then Value.slice (some ⟨B k,0,none⟩) (most p (k+1)) (cx (most p (k+1))) else .slice none 0 0) 211∧(∀ k,k<i→Sa Rc.gate (fun z=>h4.next≤z) h5 (some ⟨B k,0,none⟩) (most p (k+1)) (cx (most p (k+1))) (N.gatesL p (k+1))),n,⟨0,fun _=>0,rfl,Nat.zero_le _,rfl,k14,Nat.le_refl _,?_,fun k h=>absurd h (by omega)⟩,?_⟩
 ·have e:(List.range n).map (fun k=>if k<0 then Value.slice (some ⟨0,0,none⟩) (most p (k+1)) (cx (most p (k+1))) else .slice none 0 0)=List.replicate n (.slice none 0 0):=by
   have:(fun k=>if k<0 then Value.slice (some ⟨0,0,none⟩) (most p (k+1)) (cx (most p (k+1))) else Value.slice none 0 0)=fun _=>Value.slice none 0 0:=by funext k; rw [if_neg (by omega)]
   rw [this,List.map_const',List.length_range]
  rw [e]
  exact g4
 rintro m x h5 ⟨i,B,rfl,hi,hm,k5,lt5,b5,sg5⟩
 refine ⟨fun hlt=>?_,fun hge=>?_⟩
 ·have hs5:=hs.nw (k1.trans k5)
  obtain ⟨b,o,A5,n5,K5,row,hA,hF,hbl,hr,e0,s5⟩:=hs5.row (k:=i) (by omega)
  have wi:IntKind.i64.wrap ((i:Int)+1)=((i+1:Nat):Int):=by rw [Int.natCast_succ]; exact wr_ok (by omega) (by omega)
  have hr':p[i+1 - 1]? = some row:=by rw [Nat.add_sub_cancel]; exact hr
  obtain ⟨hrl,hrx⟩:=part_row hp hr'
  have hn5:n5=N.nv:=by rw [← s5.len]; exact hrl
  have hmf:=most_le hp (k:=i+1) (by omega) (by omega)
  refine ⟨i,rfl,b,o,hA,by omega,A5,n5,K5,e0,A,n,K,box k5,_,wi,aCount hp hs5 (by omega) (by omega) fun h6 k6=>⟨_,rfl,most p (i+1),rfl,by omega,fun h7 e7=>?_⟩⟩
  obtain ⟨k7,g7,z7⟩:=news e7
  rw [rep_two] at g7
  have k57:=k6.trans k7
  refine ⟨A,n,K,box (k5.trans k57),_,wi,aCross (G.nw ((k1.trans k5).trans k57)) hp (hs5.nw k57) (by omega) (by omega) fun A8 n8 K8 h8 s8 k8=>⟨_,_,_,rfl,?_⟩⟩
  obtain ⟨xs,hxs⟩:∃ xs,takeN (N.crB p (i+1)) N.na=xs:=⟨_,rfl⟩
  rw [hxs] at s8
  have hx8:xs.length=n8:=by have:=s8.len; simpa [ints] using this
  have hxl:xs.length≤N.na:=by rw [← hxs]; exact takeN_len _ _
  have k58:=k57.trans k8
  have z6:=k6.next
  have z8:=k8.next
  have z5:=k5.next
  have S8:Slots h8 h8.next h6.next (most p (i+1) * 2) 202 (slotL N p (i+1) []):=by
   have e:slotL N p (i+1) []=fun _=>[]:=by funext s; unfold slotL; split <;> rfl
   rw [e]
   exact Slots.new (k8.bk (by omega) g7) (by omega)
  refine ⟨fun m x h9=>∃ j:Nat,x=j∧j≤n8∧m=n8 - j∧Nw h5 h9∧Slots h9 h8.next h6.next (most p (i+1) * 2) 202 (slotL N p (i+1) (xs.take j))∧Sa cI (fun z=>h7.next≤z∧z<h8.next) h9 A8 n8 K8 (ints xs),n8,⟨0,rfl,Nat.zero_le _,rfl,k58,by rw [List.take_zero]; exact S8,s8.mono fun z hz hlt=>⟨hz,hlt⟩⟩,?_⟩
  rintro m' x h9 ⟨j,rfl,hj,hm',k9,S9,s9⟩
  refine ⟨fun hlt'=>?_,fun hge'=>?_⟩
  ·obtain ⟨b8,o8,y,hA8,-,-,hy,e8⟩:=s9.int (k:=j) (by omega)
   obtain ⟨a,ha,rfl⟩:∃ a:Nat,xs[j]? = some a∧y=(a:Int):=by
    unfold ints at hy
    rw [List.getElem?_map] at hy
    cases hv:xs[j]? with
    | none=>rw [hv] at hy; cases hy
    | some a=>rw [hv] at hy; exact ⟨a,rfl,(Option.some.inj hy).symm⟩
   have han:a<N.na:=by
    have:=List.mem_of_getElem? ha
    rw [← hxs] at this
    unfold takeN at this
    exact List.mem_range.1 (List.mem_filter.1 this).1
   have G9:=G.nw ((k1.trans k5).trans k9)
   have hto:=(NetD.to_lt G.ok han).1
   have hfr:=(NetD.fr_lt G.ok han).1
   have s59:=s5.nw k9
   obtain ⟨bt,ot,xt,hAt,-,-,hyt,et⟩:=s59.int (k:=N.to a) (by omega)
   obtain ⟨bf,of_,xf,hAf,-,-,hyf,ef⟩:=s59.int (k:=N.fr a) (by omega)
   rw [hAt] at hAf
   injection hAf with hAf
   injection hAf with hA1 hA2
   subst hA1 hA2
   obtain ⟨ut,hut,ut0,-⟩:=hrx _ hto
   obtain ⟨uf,huf,uf0,-⟩:=hrx _ hfr
   rw [hyt] at hut
   rw [hyf] at huf
   obtain rfl:=Option.some.inj hut
   obtain rfl:=Option.some.inj huf
   have ct:xt=((cel p (i+1) (N.to a):Nat):Int):=by rw [cel_row hr' hyt]; omega
   have cf:xf=((cel p (i+1) (N.fr a):Nat):Int):=by rw [cel_row hr' hyf]; omega
   have ht1:=cel_most hp (k:=i+1) (by omega) (by omega) hto
   have hf1:=cel_most hp (k:=i+1) (by omega) (by omega) hfr
   have hsl1:=slotL_len (N:=N) (p:=p) (k:=i+1) (xs.take j) (cel p (i+1) (N.to a) * 2)
   have htl:(xs.take j).length≤xs.length:=by rw [List.length_take]; omega
   have wj:IntKind.i64.wrap ((j:Int)+1)=((j+1:Nat):Int):=by rw [Int.natCast_succ]; exact wr_ok (by omega) (by omega)
   refine ⟨j,rfl,b8,o8,hA8,by omega,_,e8,aTo G9 han ⟨_,rfl,_,rfl,bt,ot,hAt,by omega,_,et,cel p (i+1) (N.to a),ct,ht1,aFrom G9 han ⟨_,rfl,by rw [← ct]; exact et,_,rfl,by omega,_,ef,cel p (i+1) (N.fr a),cf,hf1,?_⟩⟩⟩
   obtain ⟨A9,n9,K9,l9,H9⟩:=S9.app (s:=cel p (i+1) (N.to a) * 2) (by omega) a (by omega)
   refine ⟨A9,n9,K9,l9,fun h12 e12=>?_⟩
   obtain ⟨A10,n10,K10,h13,y13,h14,s14,S14,m14⟩:=H9 h12 e12
   have z14:=m14.next
   have z9:=k9.next
   have hz2:(upd (slotL N p (i+1) (xs.take j)) (cel p (i+1) (N.to a) * 2) (slotL N p (i+1) (xs.take j) (cel p (i+1) (N.to a) * 2) ++ [a]) (cel p (i+1) (N.fr a) * 2+1)).length≤100000:=by
    unfold upd
    rw [if_neg (by omega)]
    have:=slotL_len (N:=N) (p:=p) (k:=i+1) (xs.take j) (cel p (i+1) (N.fr a) * 2+1)
    omega
   obtain ⟨A11,n11,K11,l11,H11⟩:=S14.app (s:=cel p (i+1) (N.fr a) * 2+1) (by omega) a hz2
   refine ⟨A10,n10,K10,h13,y13,h14,s14,A11,n11,K11,l11,fun h15 e15=>?_⟩
   obtain ⟨A12,n12,K12,h16,y16,h17,s17,S17,m17⟩:=H11 h15 e15
   rw [slotL_next] at S17
   have m917:Mt (fun z=>z=h6.next∨h8.next≤z) h9 h17:=m14.then m17
   have htk:xs.take (j+1)=xs.take j ++ [a]:=by rw [List.take_add_one,ha]; rfl
   refine ⟨A12,n12,K12,h16,y16,h17,s17,_,wj,n8 - (j+1),by omega,j+1,rfl,by omega,rfl,m917.is_nw k9 fun z hz=>by omega,by rw [htk]; exact S17,s9.off m917 fun z hz h=>by omega⟩
  ·obtain rfl:j=n8:=by omega
   rw [List.take_of_length_le (by omega)] at S9
   have z9:=k9.next
   obtain ⟨h18,s18,b18,z18,o18⟩:=st_one (v:=.slice (some ⟨h6.next,0,none⟩) (most p (i+1)) (cx (most p (i+1)))) (k9.bk (by omega) b5) (o:=0+i) (by simp; omega) rfl
   have m18:Mt (fun z=>z=h3.next) h9 h18:=⟨by omega,fun z _ hn=>o18 z hn⟩
   have gt:=(S9.gates (K:=cx (most p (i+1))))
   have eg:((List.range (most p (i+1))).map fun c=>(ints (slotL N p (i+1) xs (c * 2)),ints (slotL N p (i+1) xs (c * 2+1))))=N.gatesL p (i+1):=by
    unfold NetD.gatesL
    apply List.map_congr_left
    intro c _
    rw [← hxs,slotL_ins,slotL_outs]
   rw [eg] at gt
   have hs9:=S9.pos
   refine ⟨by omega,h18,s18,_,wi,n - (i+1),by omega,i+1,upd B i h6.next,rfl,by omega,rfl,m18.is_nw (k5.trans k9) fun z hz=>by omega,by omega,?_,fun k hk=>?_⟩
   ·rw [Nat.zero_add,map_updS (by omega)] at b18
    have e:(fun k=>if k<i+1 then Value.slice (some ⟨upd B i h6.next k,0,none⟩) (most p (k+1)) (cx (most p (k+1))) else .slice none 0 0)=upd (fun k=>if k<i then Value.slice (some ⟨B k,0,none⟩) (most p (k+1)) (cx (most p (k+1))) else .slice none 0 0) i (.slice (some ⟨h6.next,0,none⟩) (most p (i+1)) (cx (most p (i+1)))):=by
     funext k
     unfold upd
     by_cases e:k=i
     ·subst e
      rw [if_pos (by omega),if_pos rfl,if_pos rfl]
     ·rw [if_neg e,if_neg e]
      by_cases e2:k<i
      ·simp only [if_pos e2,if_pos (show k<i+1 by omega)]
      ·simp only [if_neg e2,if_neg (show ¬ k<i+1 by omega)]
    rw [e]
    exact b18
   ·unfold upd
    by_cases e:k=i
    ·subst e
     rw [if_pos rfl]
     exact ((gt.mono fun z hz _=>(by omega:h4.next≤z)).off m18 fun z hz e=>by omega)
    ·rw [if_neg e]
     exact ((sg5 k (by omega)).nw k9).off m18 fun z hz e=>by omega
 ·obtain rfl:i=n:=by omega
  refine hK _ _ _ h5 (Sa.of_bk b5 (by simp [hn]) (by omega) (by omega) fun k x hx=>?_) (k1.trans k5)
  have hk:k<i:=by have:=(List.getElem?_eq_some_iff.1 hx).1; simp at this; omega
  have hx':x=N.gatesL p (k+1):=by
   have hk':k<p.length:=by omega
   simp [hk'] at hx; exact hx.symm
  subst hx'
  refine ⟨some ⟨B k,0,none⟩,most p (k+1),cx (most p (k+1)),?_,(sg5 k hk).mono fun z hz _=>by omega⟩
  show ((((List.range i).map fun k=>if k<i then Value.slice (some ⟨B k,0,none⟩) (most p (k+1)) (cx (most p (k+1))) else .slice none 0 0).drop (k * 1)).take 1)=_
  rw [Nat.mul_one]
  exact take_one' (by rw [List.getElem?_map,List.getElem?_range hk]; simp [hk])
end
end Eva
end
section
open Go Go.RowKit
namespace Eva
structure LS (h0:AH) (C rb sb D db hb hp outs n Kr:Nat) (pre post:List Int) (done:Nat→Option Nat) (sum:Nat) (h:AH) (row:List Int) (q:Nat→Option Nat):Prop where
 nw:Nw h0 h
 lo:h0.next≤C∧h0.next≤rb∧h0.next≤sb∧h0.next≤D∧h0.next≤db∧h0.next≤hb
 lt:C<h.next∧rb<h.next∧sb<h.next∧D<h.next∧db<h.next∧hb<h.next
 ne:C≠rb∧C≠sb∧C≠D∧C≠db∧C≠hb
 cst:Bk h C ((pre ++ row ++ post).map (Value.int .i64)) 2
 len:row.length=outs
 rbx:Bk h rb [.slice (some ⟨C,pre.length,none⟩) outs Kr] 35
 sbx:Bk h sb [.int .i64 (sum:Int)] 2
 dbl:Bk h D (((List.range n).map fun a=>(done a).isSome).map Value.bool) 4
 dbx:Bk h db [.slice (some ⟨D,0,none⟩) n (cx n)] 39
 hbx:Bk h hb [.pointer (some ⟨hp,0,none⟩)] 93
 heap:∃ S,HeapQA h S hp n q∧(∀ b,S b→h0.next+1≤b)∧¬ S C∧¬ S rb∧¬ S sb∧¬ S D∧¬ S db∧¬ S hb
section
variable {h0 h h':AH} {C rb sb D db hb hp outs n Kr:Nat} {pre post:List Int} {done:Nat→Option Nat} {sum:Nat} {row:List Int} {q:Nat→Option Nat} {Q:Value→AH→Prop}
theorem LS.next (L:LS h0 C rb sb D db hb hp outs n Kr pre post done sum h row q) (a:Nw h h'):LS h0 C rb sb D db hb hp outs n Kr pre post done sum h' row q:=by
 obtain ⟨S,h1,h2⟩:=L.heap
 obtain ⟨l1,l2,l3,l4,l5,l6⟩:=L.lt
 have:=a.next
 exact ⟨L.nw.trans a,L.lo,⟨by omega,by omega,by omega,by omega,by omega,by omega⟩,L.ne,a.bk l1 L.cst,L.len,a.bk l2 L.rbx,a.bk l3 L.sbx,a.bk l4 L.dbl,a.bk l5 L.dbx,a.bk l6 L.hbx,S,h1.nw a,h2⟩
theorem bools_ld {b k:Nat} {xs:List Bool} {x:Bool} {t:TypeId} (hb:Bk h b (xs.map Value.bool) t) (hx:xs[k]? = some x):ldC h b (0+k)=some (.bool x):=by
 rw [ldC_bk hb,Nat.zero_add]
 simp [hx]
theorem at_get {l:List Int} {k:Nat} (hk:k<l.length):l[k]? = some (at_ l k):=by
 unfold at_
 rw [List.getElem?_eq_getElem hk]; rfl
theorem fTell {M:Nat} (L:LS h0 C rb sb D db hb hp outs n Kr pre post done sum h row q) {s:Stp} (hs:0≤s.2.2∧s.2.2≤M∧(s.2.1<0→0≤s.1∧s.1<n)∧s.2.1<outs) (hM:sum+M≤1152921504606846976) (hC:h0.next≠C)
  (hK:∀ h',LS h0 C rb sb D db hb hp outs n Kr pre post done sum h' (stepS done sum (row,q) s).1 (stepS done sum (row,q) s).2→h'.get h0.next=h.get h0.next→Q (.tuple #[]) h') :
  WC Tryz.prog 159 [.agg #[.int .i64 s.1,.int .i64 s.2.1,.int .i64 s.2.2],.pointer (some ⟨rb,0,none⟩),.pointer (some ⟨sb,0,none⟩),.pointer (some ⟨db,0,none⟩),.pointer (some ⟨hb,0,none⟩)] h Q:=by
 obtain ⟨s1,s2,s3⟩:=s
 simp only at hs
 obtain ⟨c0,c1,ct,co⟩:=hs
 have hlt0:h0.next<h.next:=by have:=L.lo; have:=L.lt; omega
 refine w_fill_field_least_1 fun h1 e1=>?_
 obtain ⟨k1,g1,z1⟩:=news e1
 have L1:=L.next k1
 have y0:ldC h1 h.next 0=some (.int .i64 s1):=ldC_of g1 rfl
 have y1:ldC h1 h.next 1=some (.int .i64 s2):=ldC_of g1 rfl
 have y2:ldC h1 h.next 2=some (.int .i64 s3):=ldC_of g1 rfl
 have r0:ldC h1 rb 0=some (.slice (some ⟨C,pre.length,none⟩) outs Kr):=ldC_of L1.rbx rfl
 have t0:ldC h1 sb 0=some (.int .i64 (sum:Int)):=ldC_of L1.sbx rfl
 have d0:ldC h1 db 0=some (.slice (some ⟨D,0,none⟩) n (cx n)):=ldC_of L1.dbx rfl
 have p0:ldC h1 hb 0=some (.pointer (some ⟨hp,0,none⟩)):=ldC_of L1.hbx rfl
 have w1:IntKind.i64.wrap ((sum:Int)+s3)=(sum:Int)+s3:=wr_ok (by omega) (by omega)
 obtain ⟨l1,l2,l3,l4,l5,l6⟩:=L1.lt
 obtain ⟨n1,n2,n3,n4,n5⟩:=L1.ne
 refine ⟨_,y1,fun ho=>?_,fun ho=>?_⟩
 ·obtain ⟨o,rfl⟩:=Int.eq_ofNat_of_zero_le ho
  have hlt:o<outs:=by omega
  have hrow:=L1.len
  have x7:ldC h1 C (pre.length+o)=some (.int .i64 (at_ row o)):=by
   rw [ldC_bk L1.cst,List.map_append,List.map_append,List.append_assoc,List.getElem?_append_right (by simp),List.length_map,Nat.add_sub_cancel_left,List.getElem?_append_left (by simp; omega),List.getElem?_map,at_get (by omega)]
   rfl
  have hmin:(if ((sum:Int)+s3)<at_ row o then (sum:Int)+s3 else at_ row o)=min (at_ row o) (sum+s3):=by
   rw [Int.min_def]
   split <;> split <;> omega
  obtain ⟨h2,q1,q2,q3,q4⟩:=st_one (v:=.int .i64 (min (at_ row o) (sum+s3))) L1.cst (o:=pre.length+o) (by simp; omega) rfl
  refine ⟨_,_,rfl,_,_,_,r0,_,y1,_,_,_,r0,_,y1,o,rfl,_,_,rfl,hlt,_,x7,_,_,rfl,_,t0,_,y2,_,w1,_,hmin,o,rfl,_,_,rfl,hlt,h2,q1,hK h2 ?_ ((q4 _ hC).trans (k1.get _ hlt0))⟩
  have hst:stepS done sum (row,q) ((s1,(o:Int),s3):Stp)=(row.set o (min (at_ row o) (sum+s3)),q):=by
   rw [stepS,if_pos (by exact Int.natCast_nonneg o)]
   rfl
  obtain ⟨S,p1,p2,p3,p4⟩:=L1.heap
  rw [hst]
  refine ⟨⟨by have:=L1.nw.next; omega,fun b hb=>(q4 b (by have:=L1.lo.1; omega)).trans (L1.nw.get b hb)⟩,L1.lo,⟨by omega,by omega,by omega,by omega,by omega,by omega⟩,L1.ne,?_,by simp [hrow],(q4 _ (Ne.symm n1)).trans L1.rbx,(q4 _ (Ne.symm n2)).trans L1.sbx,(q4 _ (Ne.symm n3)).trans L1.dbl,(q4 _ (Ne.symm n4)).trans L1.dbx,(q4 _ (Ne.symm n5)).trans L1.hbx,S,p1.off (S':=fun b=>b=C) ⟨by omega,fun b _ hb=>q4 b hb⟩ (fun b hb e=>p3 (e ▸ hb)),p2,p3,p4⟩
  rw [← List.map_set] at q2
  rw [List.append_assoc,List.set_append_right _ _ (by omega),Nat.add_sub_cancel_left,List.set_append_left _ _ (by omega),← List.append_assoc] at q2
  exact q2
 ·obtain ⟨ht0,ht1⟩:=ct (by omega)
  obtain ⟨r,rfl⟩:=Int.eq_ofNat_of_zero_le ht0
  have hrn:r<n:=by omega
  have hst:stepS done sum (row,q) ((((r:Nat):Int),s2,s3):Stp)=if done r=none then (row,putQ q r (sum+s3.toNat)) else (row,q):=by
   rw [stepS,if_neg ho]
   simp only [Int.toNat_natCast]
  have hd:ldC h1 D (0+r)=some (.bool (done r).isSome):=bools_ld L1.dbl (by simp [hrn])
  refine ⟨_,_,rfl,_,_,_,d0,_,y0,r,rfl,_,_,rfl,hrn,_,hd,fun hb=>?_,fun hb=>?_⟩
  ·refine hK h1 ?_ (k1.get _ hlt0)
   rw [hst,if_neg (by intro e; rw [e] at hb; cases hb)]
   exact L1
  ·have hdn:done r=none:=by cases hdr:done r with | none=>rfl | some x=>rw [hdr] at hb; cases hb
   obtain ⟨S,p1,p2,p3,p4,p5,p6,p7,p8⟩:=L1.heap
   refine ⟨_,_,rfl,_,p0,_,y0,_,_,rfl,_,t0,_,y2,_,w1,hPut p1 hrn (by omega) (by omega) fun h2 S' H2 m2 g2=>⟨_,rfl,hK h2 ?_ ((m2.get _ (by omega) (fun hs=>by have:=p2 _ hs; omega)).trans (k1.get _ hlt0))⟩⟩
   rw [hst,if_pos hdn]
   have hz:((sum:Int)+s3).toNat=sum+s3.toNat:=by omega
   rw [hz] at H2
   have hm:=m2.next
   have notS:∀ {b},b<h1.next→¬ S b→¬ S' b:=fun hb hn hs=>(g2 _ hs).elim hn (fun h=>by omega)
   exact ⟨⟨by have:=L1.nw.next; omega,fun b hb=>(m2.get b (by have:=L1.nw.next; omega) (fun hs=>by have:=p2 b hs; omega)).trans (L1.nw.get b hb)⟩,L1.lo,⟨by omega,by omega,by omega,by omega,by omega,by omega⟩,L1.ne,m2.bk l1 p3 L1.cst,L1.len,m2.bk l2 p4 L1.rbx,m2.bk l3 p5 L1.sbx,m2.bk l4 p6 L1.dbl,m2.bk l5 p7 L1.dbx,m2.bk l6 p8 L1.hbx,S',H2,fun b hb=>(g2 b hb).elim (p2 b) (fun h=>by have:=L.nw.next; omega),notS l1 p3,notS l2 p4,notS l3 p5,notS l4 p6,notS l5 p7,notS l6 p8⟩
end
def NextOk (h0:AH) (g:Nat) (fb:Array Value) (n:Nat) (steps:Nat→List Stp):Prop:=
 goesTo Tryz.prog g=true∧∀ a,a<n→∀ (h:AH) (tg:Nat) (tfb:Array Value) (J:Nat→AH→Prop) (Q:Value→AH→Prop),(∀ k h1,J k h1→Nw h0 h1)→(∀ k h1 h2,J k h1→Nw h1 h2→J k h2)→goesTo Tryz.prog tg=true →
  (∀ k s h1 (Q':Value→AH→Prop),J k h1→(steps a)[k]? = some s→(∀ h2,J (k+1) h2→Q' (.tuple #[]) h2)→WC Tryz.prog tg ([.agg #[.int .i64 s.1,.int .i64 s.2.1,.int .i64 s.2.2]] ++ tfb.toList) h1 Q') →
  J 0 h→(∀ h',J (steps a).length h'→Q (.tuple #[]) h')→WC Tryz.prog g ([.int .i64 (a:Int),.func (.func tg) #[] tfb] ++ fb.toList) h Q
end Eva
end
end Go.Proofs.YteffnclboadalaaGreatDoor
