/-
A part of the proof of TopShut: lemmas that the last text joins. No condition.
-/
import Derived.Test.YteffnclboadalaaGreatDoorPl
import Derived.Test.YteffnclboadalaaGreatDoorPk
import Derived.Test.YteffnclboadalaaGreatDoorPi
import Derived.Test.YteffnclboadalaaGreatDoorPf
namespace Go.Proofs.YteffnclboadalaaGreatDoor
set_option linter.unusedVariables false
set_option linter.unusedSimpArgs false
set_option linter.unusedSectionVars false
set_option linter.unnecessarySimpa false
section
open Go Go.RowKit
namespace Eva
theorem sl_even {P:Program} {e C n lo hi:Nat} (hT:∃ i,P.info? e=some i∧i.size=1) (h1:lo≤hi) (h2:hi≤n) (h3:lo<n∨lo=0):vSliceS P e (some ⟨C,0,none⟩) n (cx n) (some lo) (some hi) none=some (.slice (some ⟨C,lo,none⟩) (hi - lo) (cx (n - lo))):=by
 obtain ⟨i,hi',hsz⟩:=hT
 unfold vSliceS
 rw [hi']
 have hc2:(cx n) / 2=n:=by unfold cx; omega
 have hp:Nat.beq ((cx n) % 2) 0=true:=by
  have:(cx n) % 2=0:=by unfold cx; omega
  rw [this]; rfl
 have hb1:Nat.ble hi ((cx n) / 2)=true:=Nat.ble_eq_true_of_le (by omega)
 have hb0:Nat.ble lo hi=true:=Nat.ble_eq_true_of_le h1
 show cond (Option.isNone (none:Option Nat) || Option.isSome (some hi)) (sliceV i.size (some ⟨C,0,none⟩) n (cx n) ((some lo).getD 0) (some hi) none) none=_
 simp only [Option.isNone_none,Bool.true_or,cond_true,Option.getD_some]
 unfold sliceV
 simp only [Option.getD_some,hb1,hb0,Bool.and_self,cond_true,hp]
 unfold sliceX addAt
 rw [hc2,hsz,Nat.mul_one]
 rcases h3 with h3 | h3
 ·have hne:Nat.beq n lo=false:=by
   cases hb:Nat.beq n lo with
   | false=>rfl
   | true=>have:=beq_eq hb; omega
  rw [hne]
  simp only [cond_false,Option.map_some]
  unfold Addr.add
  split
  ·rename_i h0; rw [h0]
  ·simp
 ·subst h3
  cases Nat.beq n 0 <;> rfl
theorem ty64:tyB Tryz.prog 2 1 8=true:=by kernel_rfl
structure LS0 (h0:AH) (C rb D db hb hp outs n Kr:Nat) (pre post:List Int) (done:Nat→Option Nat) (h:AH) (row:List Int) (q:Nat→Option Nat):Prop where
 nw:Nw h0 h
 lo:h0.next≤C∧h0.next≤rb∧h0.next≤D∧h0.next≤db∧h0.next≤hb
 lt:C<h.next∧rb<h.next∧D<h.next∧db<h.next∧hb<h.next
 ne:C≠rb∧C≠D∧C≠db∧C≠hb∧D≠rb∧D≠db∧D≠hb
 cst:Bk h C ((pre ++ row ++ post).map (Value.int .i64)) 2
 len:row.length=outs
 rbx:Bk h rb [.slice (some ⟨C,pre.length,none⟩) outs Kr] 35
 dbl:Bk h D (((List.range n).map fun a=>(done a).isSome).map Value.bool) 4
 dbx:Bk h db [.slice (some ⟨D,0,none⟩) n (cx n)] 39
 hbx:Bk h hb [.pointer (some ⟨hp,0,none⟩)] 93
 heap:∃ S,HeapQA h S hp n q∧(∀ b,S b→h0.next+1≤b)∧¬ S C∧¬ S rb∧¬ S D∧¬ S db∧¬ S hb∧∀ b,S b→b<h.next
def cntD (done:Nat→Option Nat) (n:Nat):Nat:=((List.range n).filter fun a=>(done a).isSome).length
theorem cntD_le (done:Nat→Option Nat) (n:Nat):cntD done n≤n:=Nat.le_trans (List.length_filter_le _ _) (by simp)
theorem cntD_upd {done:Nat→Option Nat} {k c:Nat} (hd:done k=none):∀ n,k<n→cntD (upd done k (some c)) n=cntD done n+1
 | 0,h=>by omega
 | n+1,h=>by
  unfold cntD
  rw [List.range_succ,List.filter_append,List.filter_append,List.length_append,List.length_append]
  by_cases e:k=n
  ·subst e
   have h1:∀ a∈List.range k,((upd done k (some c)) a).isSome=(done a).isSome:=fun a ha=>by
    have:a≠k:=by simp at ha; omega
    simp [upd,this]
   rw [List.filter_congr h1]
   simp [upd,hd]
  ·have ih:=cntD_upd (c:=c) hd n (by omega)
   unfold cntD at ih
   rw [ih]
   have:(upd done k (some c)) n=done n:=by simp [upd,Ne.symm e]
   simp only [List.filter_cons,List.filter_nil,this]
   omega
theorem cntD_lt {done:Nat→Option Nat} {k:Nat} (hd:done k=none) {n:Nat} (hk:k<n):cntD done n<n:=by
 have h1:=cntD_upd (c:=0) hd n hk
 have h2:=cntD_le (upd done k (some 0)) n
 omega
section
variable {h:AH} {Q:Value→AH→Prop} {F:Nat→Prop} {A:Option Addr} {m K g outs n M:Nat} {fb:Array Value} {starts:List Nat} {steps:Nat→List Stp}
theorem LS0.keep1 {h0 h':AH} {C rb D db hb hp Kr:Nat} {pre post row:List Int} {done q:Nat→Option Nat} (L:LS0 h0 C rb D db hb hp outs n Kr pre post done h row q) (a:Nw h h'):LS0 h0 C rb D db hb hp outs n Kr pre post done h' row q:=by
 obtain ⟨S,h1,h2,h3,h4,h5,h6,h7,h8⟩:=L.heap
 obtain ⟨l1,l2,l3,l4,l5⟩:=L.lt
 have:=a.next
 exact ⟨L.nw.trans a,L.lo,⟨by omega,by omega,by omega,by omega,by omega⟩,L.ne,a.bk l1 L.cst,L.len,a.bk l2 L.rbx,a.bk l3 L.dbl,a.bk l4 L.dbx,a.bk l5 L.hbx,S,h1.nw a,h2,h3,h4,h5,h6,h7,fun b hb=>by have:=h8 b hb; omega⟩
theorem fRound {q0 k c:Nat} {row:List Int} {done q:Nat→Option Nat} (hF:FldOk n outs M steps) (hM:M * (n+1)<1152921504606846976)
  (hd:Dij INFN (eF steps) q0 done (finQ INFN q)) (hr:RowInv outs steps done row) (hf:Few M (cntD done n) q) (hk:q k=some c) (hkn:k<n) (hm:∀ b c',q b=some c'→c≤c') :
  done k=none∧c+M≤1152921504606846976∧Dij INFN (eF steps) q0 (upd done k (some c)) (finQ INFN (foldS (upd done k (some c)) c (steps k) (row,del q k)).2)∧RowInv outs steps (upd done k (some c)) (foldS (upd done k (some c)) c (steps k) (row,del q k)).1 ∧
   Few M (cntD (upd done k (some c)) n) (foldS (upd done k (some c)) c (steps k) (row,del q k)).2:=by
 have hcM:=hf k c hk
 have hmul:M * cntD done n≤M * n:=Nat.mul_le_mul_left _ (cntD_le _ _)
 have hmul2:M * (n+1)=M * n+M:=by rw [Nat.mul_succ]
 have hcI:c<INFN:=by unfold INFN; omega
 have hdn:done k=none:=(hd.wait k c (finQ_some.2 ⟨hk,hcI⟩)).2.2
 have hl:∀ b y,(b,y)∈(innS (steps k)).map (fun x=>(x.1,c+x.2))→y≤c+M:=fun b y hb=>by
  obtain ⟨⟨r,x⟩,hx,he⟩:=List.mem_map.1 hb
  injection he with e1 e2
  have:=(hF.inn k r x hkn hx).2
  omega
 refine ⟨hdn,by omega,?_,hr.round hF hkn hdn,?_⟩
 ·rw [foldS_q _ _ k _ _ _ (fun _=>0)]
  refine hd.round hk hcI hm _ (fun b x hb he hx hdb=>?_) (fun b y hb hy=>?_)
  ·exact List.mem_map.2 ⟨(b,x),eF_mem he,rfl⟩
  ·obtain ⟨⟨r,x⟩,hx,he⟩:=List.mem_map.1 hb
   injection he with e1 e2
   subst e1
   exact ⟨x,hF.get hkn hx,e2.symm⟩
 ·rw [foldS_q _ _ k _ _ _ (fun _=>0),cntD_upd hdn n hkn]
  exact hf.round hk hl
theorem fold_take {done:Nat→Option Nat} {sum:Nat} {l:List Stp} {k:Nat} {s:Stp} (hs:l[k]? = some s) (st:List Int × (Nat→Option Nat)):foldS done sum (l.take (k+1)) st=stepS done sum (foldS done sum (l.take k) st) s:=by
 unfold foldS
 rw [List.take_add_one,hs,List.foldl_append]
 rfl
end
end Eva
end
section
open Go Go.RowKit
namespace Eva
theorem rep_set (i T:Nat) (x y:Int) (hi:i<T):(List.replicate i x ++ List.replicate (T - i) y).set i x=List.replicate (i+1) x ++ List.replicate (T - (i+1)) y:=by
 rw [List.set_append_right _ _ (by simp),List.length_replicate,Nat.sub_self,show T - i=(T - (i+1))+1 by omega,List.replicate_succ,List.set_cons_zero,List.replicate_succ',List.append_assoc]
 rfl
theorem map_upd {done:Nat→Option Nat} {k c n:Nat} (hk:k<n):((List.range n).map fun a=>(done a).isSome).set k true=(List.range n).map fun a=>(upd done k (some c) a).isSome:=by
 apply List.ext_getElem?
 intro i
 rw [List.getElem?_set]
 by_cases e:k=i
 ·subst e
  simp [hk,upd]
 ·simp only [if_neg e,List.getElem?_map]
  by_cases hi:i<n
  ·simp [List.getElem?_range hi,upd,Ne.symm e]
  ·rw [List.getElem?_eq_none (by simpa using hi)]; rfl
theorem finQ_first (st:Nat):finQ INFN (fun b=>if b=st then some 0 else none)=fun b=>if b=st then some 0 else none:=by
 funext b
 unfold finQ
 by_cases h:b=st
 ·simp [h,INFN]
 ·simp [h]
structure LA (h0:AH) (C hb hp n outs m:Nat) (fl:List Value) (starts:List Nat) (steps:Nat→List Stp) (i:Nat) (h:AH) (pre:List Int):Prop where
 nw:Nw h0 h
 cst:Bk h C ((pre ++ List.replicate ((m - i) * outs) INF).map (Value.int .i64)) 2
 len:pre.length=i * outs
 fld:Bk h h0.next fl 206
 hbx:Bk h hb [.pointer (some ⟨hp,0,none⟩)] 93
 lt:h0.next<C∧C<hb∧hb<h.next
 heap:∃ S q,HeapQA h S hp n q∧(∀ b,S b→h0.next+1≤b)∧¬ S C∧¬ S hb∧∀ b,S b→b<h.next
 rows:∀ j st,j<i→starts[j]? = some st→RowOk outs steps st ((pre.drop (j * outs)).take outs)
section
variable {h:AH} {Q:Value→AH→Prop} {F:Nat→Prop} {A:Option Addr} {m K g outs n M:Nat} {fb:Array Value} {starts:List Nat} {steps:Nat→List Stp}
theorem fLeast (hst:Sa cI F h A m K (ints starts)) (hF:FldOk n outs M steps) (hM:M * (n+1)<1152921504606846976) (hn:n≤16384) (hm:m≤16384) (hmo:m * outs<100000) (hs:∀ s∈starts,s<n) (hN:NextOk h g fb n steps)
  (hK:∀ (C:Nat) (costs:List Int) (h':AH),Bk h' C (costs.map (Value.int .i64)) 2→h.next≤C→C<h'.next→costs.length=m * outs→(∀ i st,starts[i]? = some st→RowOk outs steps st ((costs.drop (i * outs)).take outs))→Nw h h'→Q (.slice (some ⟨C,0,none⟩) (m * outs) (cx (m * outs))) h') :
  WC Tryz.prog 94 [.agg #[.int .i64 n,.slice A m K,.func (.func g) #[] fb],.int .i64 outs] h Q:=by
 have hml:starts.length=m:=by simpa [ints] using hst.len
 obtain ⟨T,hT⟩:∃ T,m * outs=T:=⟨_,rfl⟩
 refine w_fill_field_least fun h1 e1=>?_
 obtain ⟨k1,g1,z1⟩:=news e1
 have y1:ldC h1 h.next 1=some (.slice A m K):=ldC_of g1 rfl
 have wmo:IntKind.i64.wrap ((m:Int) * (outs:Int))=(T:Int):=by rw [← Int.natCast_mul,hT]; exact wr_ok (by omega) (by omega)
 refine ⟨A,m,K,y1,_,wmo,T,rfl,by omega,fun h2 e2=>?_⟩
 obtain ⟨k2,g2,z2⟩:=news e2
 rw [rep_one] at g2
 refine ⟨fun mm x h3=>∃ i:Nat,x=i∧i≤T∧mm=T - i∧Bk h3 h1.next ((List.replicate i INF ++ List.replicate (T - i) 0).map (Value.int .i64)) 2∧h3.next=h2.next∧∀ b,b≠h1.next→h3.get b=h2.get b,T,⟨0,rfl,Nat.zero_le _,rfl,by simpa using g2,rfl,fun _ _=>rfl⟩,?_⟩
 rintro mm x h3 ⟨i,rfl,hi,rfl,b3,z3,o3⟩
 refine ⟨fun hlt=>?_,fun hge=>?_⟩
 ·obtain ⟨h4,s4,b4,z4,o4⟩:=ints_st b3 (k:=i) (by simp; omega) INF
  rw [rep_set i T INF 0 (by omega)] at b4
  exact ⟨i,rfl,by omega,h4,s4,_,wr_ok (by omega) (by omega),T - (i+1),by omega,i+1,by omega,by omega,rfl,b4,by omega,fun b hb=>(o4 b hb).trans (o3 b hb)⟩
 obtain rfl:T=i:=by omega
 rw [Nat.sub_self,List.replicate_zero,List.append_nil] at b3
 have f3:Bk h3 h.next [.int .i64 n,.slice A m K,.func (.func g) #[] fb] 206:=(o3 _ (by omega)).trans (k2.bk (by omega) g1)
 have k3:Nw h h3:=⟨by omega,fun b hb=>(o3 b (by omega)).trans ((k1.trans k2).get b hb)⟩
 refine ⟨_,ldC_of f3 rfl,hNew n hn fun h5 S5 hp H5 k5 hS5=>⟨_,rfl,fun h6 e6=>?_⟩⟩
 obtain ⟨h7,s7,k7,g7,z7⟩:=box_st (vs:=[.pointer (some ⟨hp,0,none⟩)]) e6 rfl (by simp [flat])
 have hz5:=k5.next
 have hz7:=k7.next
 have f7:=(k5.trans k7).bk (by omega) f3
 refine ⟨h7,s7,A,m,K,ldC_of f7 rfl,fun mm x h8=>∃ (i:Nat) (pre:List Int),x=i∧i≤m∧mm=m - i∧LA h h1.next h5.next hp n outs m [.int .i64 n,.slice A m K,.func (.func g) #[] fb] starts steps i h8 pre,m,⟨0,[],rfl,Nat.zero_le _,rfl,(k3.trans k5).trans k7,?_,by simp,f7,g7,by omega,⟨S5,_,H5.nw k7,fun b hb=>by have:=hS5 b hb; omega,fun hs=>by have:=hS5 _ hs; omega,fun hs=>?_,fun b hb=>?_⟩,fun j st hj=>absurd hj (Nat.not_lt_zero _)⟩,?_⟩
 ·have:=(k5.trans k7).bk (by omega) b3
  simpa [hT] using this
 ·obtain ⟨row,costs,A',K',Bc,Bs,seats,-,-,-,q4⟩:=H5
  have:=q4 _ hs
  omega
 ·obtain ⟨row,costs,A',K',Bc,Bs,seats,-,-,-,q4⟩:=H5
  have:=q4 _ hb
  omega
 rintro mm x h8 ⟨i,pre,rfl,him,rfl,L⟩
 refine ⟨fun hlt=>?_,fun hge=>?_⟩
 rotate_left
 ·obtain rfl:i=m:=by omega
  have hc:=L.cst
  rw [Nat.sub_self,Nat.zero_mul,List.replicate_zero,List.append_nil] at hc
  have:=hK h1.next pre h8 hc (by omega) (by have:=L.lt; omega) L.len (fun j st hj=>L.rows j st (by have:=(List.getElem?_eq_some_iff.1 hj).1; omega) hj) L.nw
  rwa [hT] at this
 have hil:i<m:=by omega
 obtain ⟨bA,oA,xs,rfl,-,hbA,hxs,exs⟩:=(hst.nw L.nw).int (k:=i) hil
 obtain ⟨st,hst1⟩:∃ st,starts[i]? = some st:=⟨_,List.getElem?_eq_getElem (by omega)⟩
 have hxst:xs=(st:Int):=by simp [ints,hst1] at hxs; exact hxs.symm
 subst hxst
 have hstn:=hs st (List.mem_of_getElem? hst1)
 obtain ⟨lo,hlo⟩:∃ lo,i * outs=lo:=⟨_,rfl⟩
 have hhi:(i+1) * outs=lo+outs:=by rw [Nat.succ_mul,hlo]
 have hle:(i+1) * outs≤m * outs:=Nat.mul_le_mul_right _ hil
 have wlo:IntKind.i64.wrap ((i:Int) * (outs:Int))=(lo:Int):=by rw [← Int.natCast_mul,hlo]; exact wr_ok (by omega) (by omega)
 have whi:IntKind.i64.wrap (((i+1:Nat):Int) * (outs:Int))=((lo+outs:Nat):Int):=by rw [← Int.natCast_mul,hhi]; exact wr_ok (by omega) (by omega)
 have hi1:IntKind.i64.wrap ((i:Int)+1)=((i+1:Nat):Int):=by rw [Int.natCast_succ]; exact wr_ok (by omega) (by omega)
 have hsl:=sl_even (P:=Tryz.prog) (e:=2) (C:=h1.next) (n:=T) (lo:=lo) (hi:=lo+outs) (by obtain ⟨q,q1,q2,-⟩:=tyB_parts ty64; exact ⟨q,q1,q2⟩) (by omega) (by omega) (by
  rcases Nat.eq_zero_or_pos outs with h0 | h0
  ·right; rw [← hlo,h0,Nat.mul_zero]
  ·left; omega)
 rw [Nat.add_sub_cancel_left] at hsl
 refine ⟨i,rfl,bA,oA,rfl,hil,_,exs,_,wlo,_,hi1,_,whi,lo,rfl,lo+outs,rfl,_,_,_,hsl,fun h9 e9=>?_⟩
 obtain ⟨h10,s10,k10,g10,z10⟩:=box_st (vs:=[.slice (some ⟨h1.next,lo,none⟩) outs (cx (T - lo))]) e9 rfl (by simp [flat])
 obtain ⟨l1,l2,l3⟩:=L.lt
 have f10:=k10.bk (by omega) L.fld
 refine ⟨h10,s10,_,ldC_of f10 rfl,n,rfl,by omega,fun h11 e11 h12 e12=>?_⟩
 obtain ⟨k11,g11,z11⟩:=news e11
 rw [rep_one] at g11
 obtain ⟨h13,s13,k13,g13,z13⟩:=box_st (vs:=[.slice (some ⟨h10.next,0,none⟩) n (cx n)]) e12 rfl (by simp [flat])
 have k813:Nw h8 h13:=(k10.trans k11).trans k13
 obtain ⟨S8,q8,H8,hS1,hS2,hS3,hS4⟩:=L.heap
 refine ⟨h13,s13,_,ldC_of (k813.bk (by omega) L.hbx) rfl,hClear (H8.nw k813) fun h14 H14 m14 z14=>⟨rfl,?_⟩⟩
 have nS:∀ {b},h8.next≤b→¬ S8 b:=fun hb hs=>by have:=hS4 _ hs; omega
 have hb14:Bk h14 h5.next [.pointer (some ⟨hp,0,none⟩)] 93:=m14.bk (by omega) hS3 (k813.bk (by omega) L.hbx)
 refine ⟨_,ldC_of hb14 rfl,hPut H14 hstn (Int.le_refl _) (by omega) fun h15 S15 H15 m15 g15=>⟨_,rfl,?_⟩⟩
 have z15:=m15.next
 have nS15:∀ {b},b<h14.next→¬ S8 b→¬ S15 b:=fun hb hn hs=>(g15 _ hs).elim hn (fun h=>by omega)
 have mm15:Mt S8 h13 h15:=m14.trans m15 fun b hb _=>hb
 have hpl:pre.length=lo:=L.len.trans hlo
 have hrep:List.replicate ((m - i) * outs) INF=List.replicate outs INF ++ List.replicate ((m - (i+1)) * outs) INF:=by
  rw [List.replicate_append_replicate,show (m - i) * outs=outs+(m - (i+1)) * outs from by rw [show m - i=(m - (i+1))+1 by omega,Nat.succ_mul,Nat.add_comm]]
 have f15:Bk h15 h.next [.int .i64 n,.slice (some ⟨bA,oA,none⟩) m K,.func (.func g) #[] fb] 206:=mm15.bk (by omega) (fun hs=>by have:=hS1 _ hs; omega) (k813.bk (by omega) L.fld)
 have LL:LS0 h h1.next h8.next h10.next h11.next h5.next hp outs n (cx (T - lo)) pre (List.replicate ((m - (i+1)) * outs) INF) (fun _=>none) h15 (List.replicate outs INF) (fun b=>if b=st then some 0 else none):=by
  refine ⟨⟨by have:=L.nw.next; omega,fun b hb=>(mm15.get b (by omega) (fun hs=>by have:=hS1 _ hs; omega)).trans ((k813.get b (by omega)).trans (L.nw.get b hb))⟩,by omega,by omega,by omega,?_,by simp,?_,?_,?_,m15.bk (by omega) hS3 hb14,⟨S15,H15,fun b hb=>(g15 b hb).elim (hS1 b) (fun h=>by omega),nS15 (by omega) hS2,nS15 (by omega) (nS (by omega)),nS15 (by omega) (nS (by omega)),nS15 (by omega) (nS (by omega)),nS15 (by omega) hS3,fun b hb=>?_⟩⟩
  ·have:=mm15.bk (by omega) hS2 (k813.bk (by omega) L.cst)
   rwa [hrep,← List.append_assoc] at this
  ·have:=mm15.bk (by omega) (nS (by omega)) ((k11.trans k13).bk (by omega) g10)
   rwa [hpl]
  ·have:=mm15.bk (by omega) (nS (by omega)) (k13.bk (by omega) g11)
   have e:(List.range n).map (fun a=>((fun _=>none:Nat→Option Nat) a).isSome)=List.replicate n false:=by
    show (List.range n).map (fun _=>false)=_
    rw [List.map_const',List.length_range]
   rw [e,List.map_replicate]
   exact this
  ·exact mm15.bk (by omega) (nS (by omega)) g13
  ·rcases g15 b hb with h | h
   ·have:=hS4 b h; omega
   ·omega
 refine ⟨fun mm h16=>∃ (done q:Nat→Option Nat) (row:List Int),mm=n - cntD done n∧LS0 h h1.next h8.next h10.next h11.next h5.next hp outs n (cx (T - lo)) pre (List.replicate ((m - (i+1)) * outs) INF) done h16 row q∧Dij INFN (eF steps) st done (finQ INFN q)∧RowInv outs steps done row∧Few M (cntD done n) q∧Bk h16 h.next [.int .i64 n,.slice (some ⟨bA,oA,none⟩) m K,.func (.func g) #[] fb] 206,n,⟨_,_,_,?_,LL,?_,RowInv.start _ _,fun b c hb=>?_,f15⟩,?_⟩
 ·have:cntD (fun _=>none) n=0:=by simp [cntD]
  rw [this]; rfl
 ·rw [finQ_first]
  exact Dij.new (by unfold INFN; omega)
 ·by_cases e:b=st
  ·simp [e] at hb; omega
  ·simp [e] at hb
 rintro mm h16 ⟨done,q,row,rfl,L16,hD,hR,hFw,f16⟩
 obtain ⟨S16,H16,c1,c2,c3,c4,c5,c6,c7⟩:=L16.heap
 obtain ⟨a1,a2,a3,a4,a5⟩:=L16.lt
 obtain ⟨n1,n2,n3,n4,n5,n6,n7⟩:=L16.ne
 refine ⟨_,ldC_of L16.hbx rfl,hPop H16 (fun hq=>?_) (fun k c h17 hkN hqk hmin H17 m17 z17=>?_)⟩
 ·
  refine ⟨_,_,_,rfl,fun h=>Bool.noConfusion h,fun _ h22 e22=>?_⟩
  obtain ⟨h23,s23,k23,g23,z23⟩:=box_st (vs:=[.int .i64 0]) e22 rfl (by simp [flat])
  have hq0:∀ b,finQ INFN q b=none:=fun b=>by unfold finQ; rw [hq b]
  have hrow:=hR.done hD hq0
  refine ⟨h23,s23,_,hi1,m - (i+1),by omega,i+1,pre ++ row,rfl,hil,rfl,?_⟩
  have L23:=L16.keep1 k23
  refine ⟨L23.nw,?_,by rw [List.length_append,hpl,L16.len,hhi],k23.bk (by omega) f16,L23.hbx,by omega,⟨S16,q,H16.nw k23,c1,c2,c6,fun b hb=>by have:=c7 b hb; omega⟩,fun j sj hj hsj=>?_⟩
  ·have:=L23.cst
   simpa only [List.append_assoc] using this
  ·by_cases e:j=i
   ·subst e
    obtain rfl:st=sj:=Option.some.inj (hst1.symm.trans hsj)
    have e1:((pre ++ row).drop (j * outs)).take outs=row:=by
     rw [show j * outs=pre.length from hlo.trans hpl.symm,List.drop_left]
     exact List.take_of_length_le (Nat.le_of_eq L16.len)
    rw [e1]
    exact hrow
   ·have h9:=L.rows j sj (by omega) hsj
    have h10:(j+1) * outs≤i * outs:=Nat.mul_le_mul_right _ (by omega)
    rw [Nat.succ_mul] at h10
    rw [List.drop_append_of_le_length (by rw [hpl]; omega),List.take_append_of_le_length (by rw [List.length_drop,hpl]; omega)]
    exact h9
 ·
  refine ⟨_,_,_,rfl,fun _ h18 e18=>?_,fun h=>Bool.noConfusion h⟩
  obtain ⟨h19,s19,k19,g19,z19⟩:=box_st (vs:=[.int .i64 c]) e18 rfl (by simp [flat])
  obtain ⟨r1,r2,r3,r4,r5⟩:=fRound hF hM hD hR hFw hqk hkN hmin
  have d19:Bk h19 h11.next [.slice (some ⟨h10.next,0,none⟩) n (cx n)] 39:=k19.bk (by omega) (m17.bk a4 c5 L16.dbx)
  have D19:=k19.bk (by omega) (m17.bk a3 c4 L16.dbl)
  obtain ⟨h20,s20,b20,z20,o20⟩:=st_one (v:=.bool true) D19 (o:=0+k) (by simpa using hkN) rfl
  rw [Nat.zero_add,← List.map_set,map_upd (c:=c) hkN] at b20
  have f20:Bk h20 h.next [.int .i64 n,.slice (some ⟨bA,oA,none⟩) m K,.func (.func g) #[] fb] 206:=(o20 _ (by omega)).trans (k19.bk (by omega) (m17.bk (by omega) (fun hs=>by have:=c1 _ hs; omega) f16))
  refine ⟨h19,s19,_,_,_,ldC_of d19 rfl,k,rfl,_,_,rfl,hkN,h20,s20,g,fb,ldC_of f20 rfl,hN.1,?_⟩
  have nw20:Nw h h20:=⟨by have:=L16.nw.next; omega,fun b hb=>(o20 b (by omega)).trans ((k19.get b (by have:=L16.nw.next; omega)).trans ((m17.get b (by have:=L16.nw.next; omega) (fun hs=>by have:=c1 _ hs; omega)).trans (L16.nw.get b hb)))⟩
  have bk20:∀ {b:Nat} {cs:List Value} {t:TypeId},b<h16.next→¬ S16 b→b≠h10.next→Bk h16 b cs t→Bk h20 b cs t:=fun hb hn hne hk=>(o20 _ hne).trans (k19.bk (by omega) (m17.bk hb hn hk))
  have LS20:LS h h1.next h8.next h17.next h10.next h11.next h5.next hp outs n (cx (T - lo)) pre (List.replicate ((m - (i+1)) * outs) INF) (upd done k (some c)) c h20 row (del q k):=by
   refine ⟨nw20,by have:=L16.nw.next; omega,by omega,by omega,bk20 a1 c2 n2 L16.cst,L16.len,bk20 a2 c3 (by omega) L16.rbx,(o20 _ (by omega)).trans g19,b20,bk20 a4 c5 (by omega) L16.dbx,bk20 a5 c6 (by omega) L16.hbx,⟨S16,(H17.nw k19).off (S':=fun b=>b=h10.next) ⟨by omega,fun b _ hb=>o20 b hb⟩ (fun b hb e=>c4 (e ▸ hb)),c1,c2,c3,fun hs=>by have:=c7 _ hs; omega,c4,c5,c6⟩⟩
  refine hN.2 k hkN h20 159 #[.pointer (some ⟨h8.next,0,none⟩),.pointer (some ⟨h17.next,0,none⟩),.pointer (some ⟨h11.next,0,none⟩),.pointer (some ⟨h5.next,0,none⟩)]
   (fun j h'=>LS h h1.next h8.next h17.next h10.next h11.next h5.next hp outs n (cx (T - lo)) pre (List.replicate ((m - (i+1)) * outs) INF) (upd done k (some c)) c h' (foldS (upd done k (some c)) c ((steps k).take j) (row,del q k)).1 (foldS (upd done k (some c)) c ((steps k).take j) (row,del q k)).2∧Bk h' h.next [.int .i64 n,.slice (some ⟨bA,oA,none⟩) m K,.func (.func g) #[] fb] 206) _
   (fun j h' hj=>hj.1.nw) (fun j h' h'' hj hw=>⟨hj.1.next hw,hw.bk (by have:=hj.1.nw.next; have:=hj.1.lt; have:=hj.1.lo; omega) hj.2⟩) (by kernel_rfl) (fun j s h' Q' hj hsj hQ'=>?_) ⟨LS20,f20⟩ (fun h21 hj=>⟨rfl,?_⟩)
  ·exact fTell hj.1 (hF.pos k s hkN (List.mem_of_getElem? hsj)) r2 (by omega) fun h'' L'' g''=>hQ' h'' ⟨by rw [fold_take hsj]; exact L'',g''.trans hj.2⟩
  ·obtain ⟨L21,f21⟩:=hj
   rw [List.take_length] at L21
   obtain ⟨S21,H21,u1,u2,u3,u4,u5,u6,u7⟩:=L21.heap
   have hcl:=cntD_lt r1 hkN
   refine ⟨n - cntD (upd done k (some c)) n,by rw [cntD_upd r1 n hkN]; omega,_,_,_,rfl,⟨L21.nw,by have:=L21.lo; omega,by have:=L21.lt; omega,by omega,L21.cst,L21.len,L21.rbx,L21.dbl,L21.dbx,L21.hbx,⟨S21,H21,?_,u2,u3,u5,u6,u7,?_⟩⟩,r3,r4,r5,f21⟩
   ·exact u1
   ·obtain ⟨row',costs',A',K',Bc,Bs,seats,-,-,-,q4⟩:=H21
    exact q4
end
end Eva
end
section
open Go
namespace Eva
structure KeyOk {α:Type} [DecidableEq α] (P:Program) (kt:TypeId) (κ:α→Value):Prop where
 pl:∀ a,pl (κ a)=true
 eq:∀ a b,pureRun P (Op.equal kt (κ a) (κ b))=some (decide (a=b))
 chk:∀ e a,checkOk P kt e (κ a)=true
 bits:∀ a,Instr.sameBits 10000 (κ a) (κ a)=true
section
variable {α:Type} [DecidableEq α]
abbrev MEn (α:Type):=α × Value × Nat
def enM (κ:α→Value) (x:MEn α):Value × Value × Nat:=(κ x.1,x.2.1,x.2.2)
def getM (l:List (MEn α)) (a:α):Option Value:=(l.find? fun x=>decide (x.1=a)).map (·.2.1)
theorem findA_spec {P:Program} {kt:TypeId} {κ:α→Value} (K:KeyOk P kt κ) (a:α):∀ (l:List (MEn α)) (i:Nat),
  (findA P kt (κ a) (l.map (enM κ)) i=some none∧getM l a=none) ∨
  ∃ j v b,findA P kt (κ a) (l.map (enM κ)) i=some (some (i+j,v))∧l[j]? = some (a,v,b)∧getM l a=some v∧∀ v' a',getM (l.set j (a,v',b)) a' = if a' = a then some v' else getM l a'
 | [],i=>.inl ⟨by show cond (Eva.pl (κ a)) (some none) none=_; rw [K.pl]; rfl,rfl⟩
 | x :: l,i=>by
  have e0:findA P kt (κ a) ((x :: l).map (enM κ)) i=findN i x.2.1 (findA P kt (κ a) (l.map (enM κ)) (i+1)) (some (decide (a=x.1))):=by
   show cond (Eva.pl (κ a) && Eva.pl (κ x.1)) (findN i x.2.1 (findA P kt (κ a) (l.map (enM κ)) (i+1)) (pureRun P (Op.equal kt (κ a) (κ x.1)))) none=_
   rw [K.pl,K.pl,K.eq]; rfl
  rw [e0]
  by_cases h:a=x.1
  ·refine .inr ⟨0,x.2.1,x.2.2,by rw [decide_eq_true h]; rfl,by rw [h]; rfl,by simp [getM,h],fun v' a'=>?_⟩
   by_cases h':a' = a
   ·simp [getM,h']
   ·have h2:¬ a=a':=fun e=>h' e.symm
    have h3:¬ x.1=a':=fun e=>h2 (h.trans e)
    simp [getM,h',h2,h3]
  ·have hx:¬ x.1=a:=fun e=>h e.symm
   rw [decide_eq_false h]
   rcases findA_spec K a l (i+1) with ⟨h1,h2⟩ | ⟨j,v,b,h1,h2,h3,h4⟩
   ·exact .inl ⟨h1,by simpa [getM,hx] using h2⟩
   ·refine .inr ⟨j+1,v,b,by show findA P kt (κ a) (l.map (enM κ)) (i+1)=_; rw [h1]; congr 3; omega,by simpa using h2,by simpa [getM,hx] using h3,fun v' a'=>?_⟩
    have h5:=h4 v' a'
    by_cases h6:x.1=a'
    ·have h7:¬ a' = a:=fun e=>hx (h6.trans e)
     simp [getM,h6,h7]
    ·simpa [getM,h6] using h5
theorem modA_set {κ:α→Value} {a:α} {v v0:Value} {b:Nat}:∀ {l:List (MEn α)} {j:Nat},l[j]? = some (a,v0,b)→modA (κ a) v (l.map (enM κ)) j=(l.set j (a,v,b)).map (enM κ)
 | [],j,h=>by simp at h
 | x :: l,0,h=>by simp at h; subst h; rfl
 | x :: l,j+1,h=>by
  show enM κ x :: modA (κ a) v (l.map (enM κ)) j=_
  rw [modA_set (l:=l) (j:=j) (by simpa using h)]; rfl
def MapF (κ:α→Value) (h:AH) (r:Nat) (f:α→Option Value):Prop:=
 ∃ (l:List (MEn α)) (clock:Nat),h.get r=some (.map (l.map (enM κ)) clock)∧∀ a,f a=getM l a
theorem MapF.keep {κ:α→Value} {h h':AH} {r:Nat} {f:α→Option Value} (m:MapF κ h r f) (hg:h'.get r=h.get r):MapF κ h' r f:=by
 obtain ⟨l,c,h1,h2⟩:=m
 exact ⟨l,c,hg.trans h1,h2⟩
theorem MapF.new {κ:α→Value} {h:AH} {r c:Nat} (hg:h.get r=some (.map [] c)):MapF κ h r (fun _=>none):=⟨[],c,hg,fun a=>rfl⟩
section
variable {P:Program} {kt e:TypeId} {κ:α→Value} {h:AH} {r:Nat} {f:α→Option Value} {i:TypeInfo} {z:Value}
theorem MapF.look (m:MapF κ h r f) (K:KeyOk P kt κ) (hi:P.info? e=some i) (hz:i.zero=some z) (hp:Eva.pl z=true) (a:α) (ok:Bool) :
  vLookup P (some (.map kt e)) (.map (some r)) (κ a) ok h=some (cond ok (.tuple #[(f a).getD z,.bool (f a).isSome]) ((f a).getD z)):=by
 obtain ⟨l,c,h1,h2⟩:=m
 unfold vLookup entries
 simp only [h1,hi,K.pl,K.chk,Bool.and_self,cond_true,h2,hz]
 rcases findA_spec K a l 0 with ⟨g1,g2⟩ | ⟨j,v,b,g1,g2,g3,-⟩
 ·rw [g1,g2]
  show cond (Eva.pl z) _ none=_
  rw [hp]; rfl
 ·rw [g1,g3]; rfl
theorem MapF.put (m:MapF κ h r f) (K:KeyOk P kt κ) (a:α) (v:Value) :
  ∃ h',lMap P h (some (.map kt e)) (.map (some r)) (κ a) v=some (undef,h')∧MapF κ h' r (fun x=>if x=a then some v else f x)∧h'.next=h.next∧∀ b,b≠r→h'.get b=h.get b:=by
 obtain ⟨l,c,h1,h2⟩:=m
 have hput:∀ ao,(h.put r ao).get r=some ao:=fun ao=>by rw [get_put,if_pos rfl]
 have hne:∀ ao b,b≠r→(h.put r ao).get b=h.get b:=fun ao b hb=>by rw [get_put,if_neg hb]
 unfold lMap
 simp only [h1,K.pl,K.chk,Bool.and_self,cond_true]
 rcases findA_spec K a l 0 with ⟨g1,g2⟩ | ⟨j,v0,b,g1,g2,g3,g4⟩
 ·rw [g1]
  refine ⟨h.put r (.map (l.map (enM κ) ++ [(κ a,v,c)]) (c+1)),rfl,⟨l ++ [(a,v,c)],c+1,?_,fun x=>?_⟩,rfl,fun b hb=>hne _ b hb⟩
  ·rw [hput,List.map_append]; rfl
  ·simp only [h2]
   unfold getM at g2 ⊢
   rw [List.find?_append]
   by_cases hx:x=a
   ·subst hx
    have:List.find? (fun y=>decide (y.1=x)) l=none:=by simpa using g2
    simp [this]
   ·have:¬ a=x:=fun e=>hx e.symm
    simp [hx,this]
 ·rw [g1]
  have hs:sameKey (κ a) (l.map (enM κ))[0+j]? = true:=by
   rw [Nat.zero_add,List.getElem?_map,g2]
   exact K.bits a
  refine ⟨h.put r (.map (modA (κ a) v (l.map (enM κ)) (0+j)) c),by show cond (sameKey (κ a) (l.map (enM κ))[0+j]?) _ none=_; rw [hs]; rfl,⟨l.set j (a,v,b),c,?_,fun x=>?_⟩,rfl,fun b hb=>hne _ b hb⟩
  ·rw [hput,Nat.zero_add,modA_set g2]
  ·rw [g4 v x]
   simp only [h2]
end
end
def kN (a:Nat):Value:=.int .i64 a
def kNN (a:Nat × Nat):Value:=.agg #[.int .i64 a.1,.int .i64 a.2]
section
variable {P:Program} {α β:Type}
theorem pureRun_bind (s:Sem α) (k:α→Sem β):pureRun P (s >>= k)=(pureRun P s).bind fun a=>pureRun P (k a):=by
 show pureRun P (Sem.bind s k)=_
 induction s with
 | pure a=>rfl
 | program f ih=>exact ih P
 | mark m f ih=>exact ih
 | _=>rfl
theorem pureRun_pure (a:α):pureRun P (pure a:Sem α)=some a:=rfl
theorem pureRun_und {t:TypeId} {d:TypeDesc} (h:P.underlying t=some d):pureRun P (underlying t)=some d:=by
 unfold underlying
 rw [pureRun_bind]
 show (Option.bind (some P) _)=_
 simp only [Option.bind_some,h]
 rfl
theorem pureRun_siz {t:TypeId} {i:TypeInfo} (h:P.info? t=some i):pureRun P (sizeOf t)=some i.size:=by
 unfold sizeOf typeInfo
 rw [pureRun_bind,pureRun_bind]
 show (Option.bind (Option.bind (some P) _) _)=_
 simp only [Option.bind_some,h]
 rfl
theorem eqI {t:TypeId} {k:IntKind} (h:P.underlying t=some (.int k)) (d:Nat) (x y:Int):pureRun P (Op.equalIn (d+1) t (.int .i64 x) (.int .i64 y))=some (x == y):=by
 unfold Op.equalIn
 rw [pureRun_bind,pureRun_und h]
 rfl
theorem chkI {t:TypeId} {k:IntKind} (h:P.underlying t=some (.int k)) (e:Bool) (d:Nat) (x:Int):pureRun P (Instr.checkKey e (d+1) t (.int .i64 x))=some ():=by
 unfold Instr.checkKey
 rw [pureRun_bind,pureRun_und h]
 rfl
theorem keyN {kt:TypeId} {d:IntKind} (hu:P.underlying kt=some (.int d)):KeyOk P kt kN where
 pl:=fun a=>by rfl
 eq:=fun a b=>by
  show pureRun P (Op.equalIn (9999+1) kt (.int .i64 a) (.int .i64 b))=_
  rw [eqI hu]
  congr 1
  exact decide_eq_decide.2 Int.ofNat_inj
 chk:=fun e a=>by
  show (match pureRun P (Instr.checkKey e (9999+1) kt (.int .i64 a)) with | some _=>true | none=>false)=true
  rw [chkI hu]
 bits:=fun a=>by
  show Instr.sameBits 10000 (.int .i64 a) (.int .i64 a)=true
  unfold Instr.sameBits
  simp
theorem pureRun_ite (c:Prop) [Decidable c] (s t:Sem α):pureRun P (if c then s else t)=if c then pureRun P s else pureRun P t:=by split <;> rfl
theorem pureRun_part {et:TypeId} {d:IntKind} {i:TypeInfo} (he:P.underlying et=some (.int d)) (hi:P.info? et=some i) (x:Array Value) (j:Nat) {v:Value} (hv:x[j]? = some v):pureRun P (part et x j)=some v:=by
 unfold part isAgg
 rw [pureRun_bind,pureRun_bind,pureRun_und he]
 simp only [Option.bind_some,hv]
 rfl
theorem keyNN {kt et:TypeId} {d:IntKind} {i:TypeInfo} (hu:P.underlying kt=some (.array 2 et)) (he:P.underlying et=some (.int d)) (hi:P.info? et=some i) (hs:i.size=1):KeyOk P kt kNN where
 pl:=fun a=>by rfl
 eq:=fun a b=>by
  obtain ⟨a1,a2⟩:=a
  obtain ⟨b1,b2⟩:=b
  show pureRun P (Op.equalIn (9999+1) kt (.agg #[.int .i64 a1,.int .i64 a2]) (.agg #[.int .i64 b1,.int .i64 b2]))=_
  unfold Op.equalIn
  rw [pureRun_bind,pureRun_und hu]
  simp only [Option.bind_some]
  rw [pureRun_bind,pureRun_siz hi,hs]
  simp only [Option.bind_some]
  simp only [Std.Legacy.Range.forIn_eq_forIn_range',Std.Legacy.Range.size,List.range',List.forIn_cons,List.forIn_nil]
  simp [pureRun_bind,pureRun_part he hi,eqI he,List.range',pureRun_pure,pureRun_ite]
  by_cases h1:a1=b1 <;> by_cases h2:a2=b2 <;> simp [h1,h2,pureRun_bind,pureRun_part he hi,eqI he,pureRun_pure,beq_iff_eq,Int.ofNat_inj]
 chk:=fun e a=>by
  show (match pureRun P (Instr.checkKey e (9999+1) kt (.agg #[.int .i64 a.1,.int .i64 a.2])) with | some _=>true | none=>false)=true
  unfold Instr.checkKey
  rw [pureRun_bind,pureRun_und hu]
  simp only [Option.bind_some]
  simp [pureRun_bind,pureRun_part he hi,chkI he,pureRun_siz hi,hs,List.range',pureRun_pure]
 bits:=fun a=>by
  show Instr.sameBits 10000 (.agg #[.int .i64 a.1,.int .i64 a.2]) (.agg #[.int .i64 a.1,.int .i64 a.2])=true
  unfold Instr.sameBits
  simp [Instr.sameBits]
end
end Eva
end
section
open Go Go.RowKit
namespace Eva
theorem keyI:KeyOk Tryz.prog 3 kN:=keyN (d:=.i64) Tryz.underlying3
theorem infoI:∃ i,Tryz.prog.info? 3=some i∧i.zero=some (.int .i64 0):=by
 obtain ⟨i,h1,h2⟩:∃ i,Tryz.prog.info? 3=some i∧(match Tryz.prog.info? 3 with | some i=>i.zero | none=>none)=some (.int .i64 0):=by
  cases h:Tryz.prog.info? 3 with
  | some i=>exact ⟨i,rfl,by rw [← h]; kernel_rfl⟩
  | none=>
   have:(Tryz.prog.info? 3).isSome=true:=by kernel_rfl
   rw [h] at this; cases this
 exact ⟨i,h1,by rw [h1] at h2; exact h2⟩
def pmF (L:List Nat):Nat→Option Value:=fun a=>if a∈L then some (.int .i64 ((L.idxOf a:Nat):Int)) else none
theorem pmF_snoc {L:List Nat} {b:Nat} (hb:b ∉ L):(fun x=>if x=b then some (Value.int .i64 (L.length:Int)) else pmF L x)=pmF (L ++ [b]):=by
 funext x
 unfold pmF
 by_cases e:x=b
 ·subst e
  rw [if_pos rfl,if_pos (by simp),List.idxOf_append,if_neg hb]
  simp
 ·rw [if_neg e]
  by_cases h:x∈L
  ·rw [if_pos h,if_pos (by simp [h]),List.idxOf_append,if_pos h]
  ·rw [if_neg h,if_neg (by simp [h,e])]
section
variable {h h0:AH} {Q:Value→AH→Prop} {F:Nat→Prop} {A:Option Addr} {n K:Nat}
theorem mapLook {L:List Nat} {pm:Nat} (m:MapF kN h pm (pmF L)) (b:Nat):vLookup Tryz.prog (some (.map 3 3)) (.map (some pm)) (.int .i64 (b:Int)) true h=some (.tuple #[.int .i64 (if b∈L then ((L.idxOf b:Nat):Int) else 0),.bool (decide (b∈L))]):=by
 obtain ⟨i,h1,h2⟩:=infoI
 have:=m.look keyI h1 h2 rfl b true
 show vLookup _ _ _ (kN b) true h=_
 rw [this]
 unfold pmF
 by_cases hb:b∈L
 ·simp [hb]
 ·simp [hb]
theorem mapLook1 {L:List Nat} {pm:Nat} (m:MapF kN h pm (pmF L)) (b:Nat):vLookup Tryz.prog (some (.map 3 3)) (.map (some pm)) (.int .i64 (b:Int)) false h=some (.int .i64 (if b∈L then ((L.idxOf b:Nat):Int) else 0)):=by
 obtain ⟨i,h1,h2⟩:=infoI
 have:=m.look keyI h1 h2 rfl b false
 show vLookup _ _ _ (kN b) false h=_
 rw [this]
 unfold pmF
 by_cases hb:b∈L
 ·simp [hb]
 ·simp [hb]
theorem mapPut {L:List Nat} {pm:Nat} (m:MapF kN h pm (pmF L)) {b:Nat} (hb:b ∉ L):∃ h',lMap Tryz.prog h (some (.map 3 3)) (.map (some pm)) (.int .i64 (b:Int)) (.int .i64 (L.length:Int))=some (undef,h')∧MapF kN h' pm (pmF (L ++ [b]))∧h'.next=h.next∧∀ c,c≠pm→h'.get c=h.get c:=by
 obtain ⟨h',x1,x2,x3,x4⟩:=m.put (P:=Tryz.prog) (e:=3) keyI b (.int .i64 (L.length:Int))
 rw [pmF_snoc hb] at x2
 exact ⟨h',x1,x2,x3,x4⟩
theorem nextArcs {S:List (List Stp)} {sb:Nat} (hlt:sb<h0.next) (hb:ldC h0 sb 0=some (.slice A n K)) (hs:Sa (Rc.slice cTri) F h0 A n K S) (hS:∀ r∈S,r.length≤100000):NextOk h0 157 #[.pointer (some ⟨sb,0,none⟩)] n (stepsOf S):=by
 refine ⟨by kernel_rfl,fun a ha h tg tfb J Q hJn hJs htg htell hJ0 hQ=>?_⟩
 have nw0:=hJn 0 h hJ0
 obtain ⟨b,o,A',n',K',r,rfl,hF,hbl,hr,e0,s0⟩:=hs.row (k:=a) ha
 have hrS:stepsOf S a=r:=by unfold stepsOf; rw [hr]; rfl
 have hrl:=hS r (List.mem_of_getElem? hr)
 have hn':=s0.len
 refine w_fill_byArcs_1 ⟨sb,0,rfl,_,_,_,(nw0.ldC hlt 0).trans hb,a,rfl,_,_,rfl,ha,_,_,_,(nw0.ldC hbl _).trans e0,fun m x h1=>∃ i:Nat,x=i∧i≤n'∧m=n' - i∧J i h1,n',⟨0,rfl,Nat.zero_le _,rfl,hJ0⟩,?_⟩
 rintro m x h1 ⟨i,rfl,hi,rfl,hJ1⟩
 refine ⟨fun hlt=>?_,fun hge=>?_⟩
 ·obtain ⟨b3,o3,x3,x4,x5,rfl,-,-,hx,f0,f1,f2⟩:=(s0.nw (hJn _ _ hJ1)).tri (k:=i) (by omega)
  refine ⟨i,rfl,_,_,rfl,by omega,_,_,_,ldN3 f0 f1 f2,fun h2 e2=>?_⟩
  obtain ⟨h3,s3,k3,g3,z3⟩:=box_st (vs:=[.int .i64 x3,.int .i64 x4,.int .i64 x5]) e2 rfl (flat3 rfl rfl rfl)
  refine ⟨h3,s3,_,_,_,ldN3 (ldC_of g3 rfl) (ldC_of g3 rfl) (ldC_of g3 rfl),htg,?_⟩
  refine htell i (x3,x4,x5) h3 _ (hJs _ _ _ hJ1 k3) (by rw [hrS]; exact hx) fun h4 hJ4=>⟨rfl,_,wr_ok (by omega) (by omega),n' - (i+1),by omega,i+1,by omega,by omega,rfl,hJ4⟩
 ·have hin:i=(stepsOf S a).length:=by rw [hrS]; omega
  rw [hin] at hJ1
  exact hQ h1 hJ1
end
end Eva
end
section
open Go Go.RowKit
namespace Eva
theorem tyS:tyB Tryz.prog 284 3 24=true:=by kernel_rfl
theorem tySs:tyB Tryz.prog 282 1 24=true:=by kernel_rfl
section
variable {h h':AH} {Q:Value→AH→Prop} {F:Nat→Prop} {A:Option Addr} {n K:Nat} {xs:List Int}
theorem aCloneP (hs:Sa cI F h A n K xs) (hn:n≤100000) (hK:∀ A' K' h',OwnP cI h' (ownB A') 3 A' n K' xs→Nw h h'→(∀ b,ownB A' b→h.next≤b)→Q (.slice A' n K') h'):WC Tryz.prog 55 [.slice A n K] h Q:=by
 refine w_slices_Clone_int_int ⟨fun hA=>?_,fun hA=>?_⟩
 ·obtain ⟨h0,h1⟩:=hs.nil0 hA
  refine ⟨h0,h1,?_⟩
  subst hA h0 h1
  have hx:xs = []:=List.eq_nil_of_length_eq_zero hs.len
  subst hx
  exact hK none 0 h (OwnP.nil _ _ _ _) (Nw.refl _) (fun b hb=>hb.elim)
 ·obtain ⟨b,o,rfl⟩:=hs.some_ hA
  refine ⟨b,o,rfl,fun h1 e1=>?_⟩
  obtain ⟨k1,g1,z1⟩:=news e1
  have hB:OwnP cI h1 (ownB (some ⟨h.next,0,none⟩)) 3 (some ⟨h.next,0,none⟩) 0 (2 * 0) []:=OwnP.lit (r:=cI) (xs:=[]) (n:=0) g1 rfl (by omega) rfl rfl (by simp) (by simp)
  obtain ⟨A',K',h',x1,x2,x3,x4⟩:=app_row (free_int _) (r:=cI) tyI8 hB (hs.nw k1).z (by omega) (by omega)
  rw [Nat.zero_add] at x1 x2
  rw [List.nil_append] at x2
  refine ⟨A',n,K',h',x1,hK _ _ _ x2 (x3.is_nw k1 fun b hb=>?_) fun b hb=>?_⟩
  ·have:b=h.next:=hb
   omega
  ·rcases x4 b hb with h2 | h2
   ·have:b=h.next:=h2
    omega
   ·omega
end
theorem aRow_len (N:NetD) (outs L:List Nat) (a:Nat) (bs:List Nat):(N.aRow outs L a bs).length≤bs.length:=List.length_filterMap_le _ _
structure AB (h0:AH) (N:NetD) (p:List (List Int)) (c pm sb:Nat) (D:Nat→Prop) (A14:Option Addr) (K14 i:Nat) (S:List (List Stp)) (h:AH) (A5:Option Addr) (n5 K5:Nat) (L:List Nat):Prop where
 nw:Nw h0 h
 fld:AFld N p c L i S
 len:L.length=n5
 arcs:OwnP cI h (ownB A5) 3 A5 n5 K5 (ints L)
 map_:MapF kN h pm (pmF L)
 sbx:Bk h sb [.slice A14 i K14] 281
 stp:OwnP (Rc.slice cTri) h D 282 A14 i K14 S
 dlo:∀ b,D b→h0.next≤b∧b<h.next∧b≠pm∧b≠sb
 alo:∀ b,ownB A5 b→h0.next≤b∧b≠pm∧b≠sb∧¬ D b
 pos:h0.next≤pm∧h0.next≤sb∧pm≠sb∧pm<h.next∧sb<h.next
section
variable {h h' h0:AH} {N:NetD} {p:List (List Int)} {c pm sb:Nat} {D:Nat→Prop} {A14 A5:Option Addr} {K14 i n5 K5:Nat} {S:List (List Stp)} {L:List Nat} {a b:Nat}
theorem AB.keep (B:AB h0 N p c pm sb D A14 K14 i S h A5 n5 K5 L) (hk:∀ b,b<h.next→h'.get b=h.get b) (hn:h.next≤h'.next):AB h0 N p c pm sb D A14 K14 i S h' A5 n5 K5 L:=by
 obtain ⟨p1,p2,p3,p4,p5⟩:=B.pos
 have a:Nw h h':=⟨hn,hk⟩
 exact ⟨B.nw.trans a,B.fld,B.len,B.arcs.nw a,B.map_.keep (hk _ p4),a.bk p5 B.sbx,B.stp.nw a,fun b hb=>by have:=B.dlo b hb; omega,B.alo,by omega⟩
theorem AB.next (B:AB h0 N p c pm sb D A14 K14 i S h A5 n5 K5 L) (a:Nw h h'):AB h0 N p c pm sb D A14 K14 i S h' A5 n5 K5 L:=B.keep a.get a.next
theorem AB.grow (B:AB h0 N p c pm sb D A14 K14 i S h A5 n5 K5 L) (hok:N.Ok) (hfew:N.na≤1000) {r:Nat} (ha:L[r]? = some a) (hb:N.aIn (N.outs p 1 c) a b) (hn:b ∉ L) :
  ∃ h19,lMap Tryz.prog h (some (.map 3 3)) (.map (some pm)) (.int .i64 (b:Int)) (.int .i64 (n5:Int))=some (undef,h19) ∧
   ∀ h20,h20=AH.new h19 (.cells [.int .i64 (b:Int)] 3 false)→∃ A' K' h21,lAppend Tryz.prog h20 (some (.slice 3)) (some (.slice 3)) (.slice A5 n5 K5) (.slice (some ⟨h19.next,0,none⟩) 1 2)=some (.slice A' (n5+1) K',h21) ∧
    AB h0 N p c pm sb D A14 K14 i S h21 A' (n5+1) K' (L ++ [b])∧(∀ x,ownB A' x→ownB A5 x∨h.next≤x)∧h.next≤h21.next∧(∀ x,x<h.next→x≠pm→¬ ownB A5 x→h21.get x=h.get x):=by
 obtain ⟨p1,p2,p3,p4,p5⟩:=B.pos
 have hL:=B.fld.len
 obtain ⟨h19,x1,x2,x3,x4⟩:=mapPut B.map_ hn
 rw [B.len] at x1
 refine ⟨h19,x1,fun h20 e20=>?_⟩
 obtain ⟨k20,g20,z20⟩:=news e20
 have hn5:=B.len
 have arcs19:OwnP cI h19 (ownB A5) 3 A5 n5 K5 (ints L):=B.arcs.keep (fun x hx _=>x4 x (fun e=>(B.alo x hx).2.1 e)) (by omega)
 have hz:Sz cI (fun x=>x=h19.next) h20 (some ⟨h19.next,0,none⟩) 1 2 [(b:Int)]:=Sz.one g20 rfl (by omega) rfl rfl
 obtain ⟨A',K',h21,y1,y2,y3,y4⟩:=app_row (free_int _) (r:=cI) tyI8 (arcs19.nw k20) hz (by omega) (by omega)
 have z21:=y3.next
 have same:∀ x,x<h.next→x≠pm→¬ ownB A5 x→h21.get x=h.get x:=fun x hx h1 h2=>(y3.get x (by omega) h2).trans ((k20.get x (by omega)).trans (x4 x h1))
 have hA:∀ x,ownB A' x→ownB A5 x∨h.next≤x:=fun x hx=>(y4 x hx).imp id (fun h=>by omega)
 have nA:∀ {x},D x→¬ ownB A5 x:=fun hd ha=>(B.alo _ ha).2.2.2 hd
 refine ⟨A',K',h21,y1,⟨⟨by have:=B.nw.next; omega,fun x hx=>(same x (by have:=B.nw.next; omega) (by omega) (fun ha=>by have:=(B.alo x ha).1; omega)).trans (B.nw.get x hx)⟩,B.fld.add hok ha hb hn,by simp [hn5],?_,?_,?_,?_,fun x hx=>by have:=B.dlo x hx; omega,fun x hx=>?_,by omega⟩,hA,by omega,same⟩
 ·have:ints (L ++ [b])=ints L ++ [(b:Int)]:=by simp [ints]
  rw [this]
  exact y2
 ·refine x2.keep ((y3.get _ (by omega) (fun ha=>(B.alo _ ha).2.1 rfl)).trans (k20.get _ (by omega)))
 ·exact (same _ p5 (Ne.symm p3) (fun ha=>(B.alo _ ha).2.2.1 rfl)).trans B.sbx
 ·exact B.stp.keep (fun x hx hlt=>same x hlt (B.dlo x hx).2.2.1 (nA hx)) (by omega)
 ·rcases hA x hx with h1 | h1
  ·exact B.alo x h1
  ·exact ⟨by omega,by omega,by omega,fun hd=>by have:=(B.dlo x hd).2.1; omega⟩
end
end Eva
end
section
open Go Go.RowKit
namespace Eva
section
variable {h h' h0 h1:AH} {N:NetD} {p:List (List Int)} {c pm sb top:Nat} {D:Nat→Prop} {A14 A5 A8:Option Addr} {K14 i n5 K5 n8 K8:Nat} {S:List (List Stp)} {L:List Nat} {a b:Nat} {l:List Stp}
theorem pushStp (o:OwnP cTri h (ownB A8) 284 A8 n8 K8 l) (hn:n8≤2000) (s:Stp) (e:h1=AH.new h (.cells [.int .i64 s.1,.int .i64 s.2.1,.int .i64 s.2.2] 284 false)) :
  ∃ A' K' h2,lAppend Tryz.prog h1 (some (.slice 284)) (some (.slice 284)) (.slice A8 n8 K8) (.slice (some ⟨h.next,0,none⟩) 1 2)=some (.slice A' (n8+1) K',h2)∧OwnP cTri h2 (ownB A') 284 A' (n8+1) K' (l ++ [s])∧Mt (ownB A8) h h2∧h.next<h2.next∧∀ b,ownB A' b→ownB A8 b∨h.next≤b:=by
 obtain ⟨k1,g1,z1⟩:=news e
 have hz:Sz cTri (fun x=>x=h.next) h1 (some ⟨h.next,0,none⟩) 1 2 [s]:=Sz.one g1 rfl (by omega) rfl rfl
 obtain ⟨A',K',h2,y1,y2,y3,y4⟩:=app_row (free_tri _ _ _) (r:=cTri) tyS (o.nw k1) hz (by omega) (by omega)
 have z2:=y3.next
 exact ⟨A',K',h2,y1,y2,⟨by omega,fun b hb hn=>(y3.get b (by omega) hn).trans (k1.get b hb)⟩,by omega,fun b hb=>(y4 b hb).imp id fun h=>by omega⟩
theorem AB.off (B:AB h0 N p c pm sb D A14 K14 i S h A5 n5 K5 L) (m:Mt (ownB A8) h h') (h8:∀ b,ownB A8 b→top≤b∧¬ ownB A5 b) (ht:pm<top∧sb<top∧∀ b,D b→b<top):AB h0 N p c pm sb D A14 K14 i S h' A5 n5 K5 L:=by
 obtain ⟨p1,p2,p3,p4,p5⟩:=B.pos
 obtain ⟨t1,t2,t3⟩:=ht
 have z:=m.next
 have lo:∀ {x},x<top→¬ ownB A8 x:=fun hx hb=>by have:=(h8 _ hb).1; omega
 have nA:∀ {x},ownB A5 x→¬ ownB A8 x:=fun hx hb=>(h8 _ hb).2 hx
 exact ⟨⟨by have:=B.nw.next; omega,fun x hx=>(m.get x (by have:=B.nw.next; omega) (lo (by omega))).trans (B.nw.get x hx)⟩,B.fld,B.len,B.arcs.keep (fun x hx hlt=>m.get x hlt (nA hx)) z,B.map_.keep (m.get _ p4 (lo t1)),m.bk p5 (lo t2) B.sbx,B.stp.keep (fun x hx hlt=>m.get x hlt (lo (t3 x hx))) z,fun b hb=>by have:=B.dlo b hb; omega,B.alo,by omega⟩
end
theorem placeI_nn {l:List Nat} {a:Nat}:(0≤placeI l a↔a∈l):=by
 unfold placeI
 by_cases h:a∈l
 ·rw [if_pos h]; exact ⟨fun _=>h,fun _=>Int.natCast_nonneg _⟩
 ·rw [if_neg h]; exact ⟨fun h'=>absurd h' (by omega),fun h'=>absurd h' h⟩
section
variable {h:AH} {Q:Value→AH→Prop} {Fa F F1 F2:Nat→Prop} {g:Nat} {N:NetD} {p:List (List Int)} {c:Nat} {A1 A2:Option Addr} {n1 n2 K1 K2:Nat}
theorem aByArcs (G:GrA h Fa F g N) (s1:Sa cI F1 h A1 n1 K1 (ints (N.ins p 1 c))) (s2:Sa cI F2 h A2 n2 K2 (ints (N.outs p 1 c)))
  (hK:∀ (L:List Nat) (S:List (List Stp)) (sb:Nat) (A':Option Addr) (K':Nat) (h':AH),AFld N p c L L.length S→NextOk h' 157 #[.pointer (some ⟨sb,0,none⟩)] L.length (stepsOf S)→Sa cI (fun b=>h.next≤b) h' A' n1 K' (ints (List.range n1))→Nw h h' →
   Q (.agg #[.int .i64 (L.length:Int),.slice A' n1 K',.func (.func 157) #[] #[.pointer (some ⟨sb,0,none⟩)]]) h') :
  WC Tryz.prog 93 [.pointer (some ⟨g,0,none⟩),.agg #[.slice A1 n1 K1,.slice A2 n2 K2]] h Q:=by
 have hna:=G.few.2
 have hl1:(N.ins p 1 c).length=n1:=by simpa [ints] using s1.len
 have hl2:(N.outs p 1 c).length=n2:=by simpa [ints] using s2.len
 have hn1:n1≤1000:=by rw [← hl1]; exact Nat.le_trans (takeN_len _ _) hna
 have hn2:n2≤1000:=by rw [← hl2]; exact Nat.le_trans (takeN_len _ _) hna
 have hasc:(N.ins p 1 c).Pairwise (· < ·):=takeN_asc _ _
 refine w_fill_byArcs fun h1 e1 h2 e2=>?_
 obtain ⟨k1,g1,z1⟩:=news e1
 obtain ⟨k2,g2,z2⟩:=news e2
 have gb:Bk h2 h.next [.slice A1 n1 K1,.slice A2 n2 K2] 202:=k2.bk (by omega) g1
 have G2:=G.nw (k1.trans k2)
 have s22:=s2.nw (k1.trans k2)
 refine ⟨_,_,_,ldC_of (k2.bk (by omega) g1) rfl,aCloneP (s1.nw (k1.trans k2)) (by omega) fun A4 K4 h3 o3 k3 hA4=>⟨_,_,_,rfl,fun h4 e4=>?_⟩⟩
 obtain ⟨k4,g4,z4⟩:=news e4
 have z3:=k3.next
 have o3lt:∀ b,ownB A4 b→b<h3.next:=fun b hb=>o3.own hb
 refine ⟨fun m x h5=>∃ i:Nat,x=i∧i≤n1∧m=n1 - i∧MapF kN h5 h3.next (pmF ((N.ins p 1 c).take i))∧h5.next=h4.next∧∀ b,b≠h3.next→h5.get b=h4.get b,n1,⟨0,rfl,Nat.zero_le _,rfl,by
  have:pmF ((N.ins p 1 c).take 0)=fun _=>none:=by funext x; simp [pmF]
  rw [this]; exact MapF.new g4,rfl,fun _ _=>rfl⟩,?_⟩
 rintro m x h5 ⟨i,rfl,hi,rfl,m5,z5,q5⟩
 have k5:Nw h3 h5:=⟨by omega,fun b hb=>(q5 b (by omega)).trans (k4.get b hb)⟩
 refine ⟨fun hlt=>?_,fun hge=>?_⟩
 ·have hil:i<n1:=by omega
  obtain ⟨b1,o1,x2,hA4',-,-,hx,e0⟩:=(o3.nw k5).sa.int (k:=i) hil
  obtain ⟨a,ha⟩:∃ a,(N.ins p 1 c)[i]? = some a:=⟨_,List.getElem?_eq_getElem (by omega)⟩
  have hxa:x2=(a:Int):=by simp [ints,ha] at hx; exact hx.symm
  subst hxa
  have hni:a ∉ (N.ins p 1 c).take i:=fun hm=>by
   obtain ⟨j,hj,he⟩:=List.mem_take_iff_getElem.1 hm
   have h2:(N.ins p 1 c)[j]? = some a:=by rw [List.getElem?_eq_getElem (by omega),he]
   have:=asc_one hasc h2 ha
   omega
  obtain ⟨h6,y1,y2,y3,y4⟩:=mapPut m5 hni
  have hlen:((N.ins p 1 c).take i).length=i:=by rw [List.length_take]; omega
  rw [hlen] at y1
  refine ⟨i,rfl,b1,o1,hA4',hil,_,e0,h6,y1,_,wr_ok (by omega) (by omega),n1 - (i+1),by omega,i+1,by omega,by omega,rfl,?_,by omega,fun b hb=>(y4 b hb).trans (q5 b hb)⟩
  rw [List.take_add_one,ha]
  exact y2
 obtain rfl:i=n1:=by omega
 rw [List.take_of_length_le (by omega)] at m5
 clear hge hi
 intro h7 e7
 obtain ⟨k7,g7,z7⟩:=news e7
 have hpm:h3.next<h5.next:=by omega
 have B7:AB h2 N p c h3.next h5.next (fun _=>False) none 0 0 [] h7 A4 i K4 (N.ins p 1 c):=by
  have w7:=k5.trans k7
  refine ⟨k3.trans w7,AFld.start N p c,hl1,o3.nw w7,m5.keep (k7.get _ (by omega)),g7,OwnP.nil _ _ _ _,fun b hb=>hb.elim,fun b hb=>?_,by omega⟩
  have:=hA4 b hb
  have:=o3lt b hb
  exact ⟨by omega,by omega,by omega,id⟩
 refine ⟨fun m A5 n5 K5 x h8=>∃ (j:Nat) (L:List Nat) (S:List (List Stp)) (A14:Option Addr) (K14:Nat) (D:Nat→Prop),x=j∧m=N.na - j∧AB h2 N p c h3.next h5.next D A14 K14 j S h8 A5 n5 K5 L∧∀ r∈S,r.length≤1000,N.na,⟨0,_,_,_,_,_,rfl,rfl,B7,by simp⟩,?_⟩
 rintro m A5 n5 K5 x h8 ⟨j,L,S,A14,K14,D,rfl,rfl,B8,hS⟩
 have hLna:=B8.fld.len
 have hLn:=B8.len
 refine ⟨fun hlt=>?_,fun hge=>?_⟩
 ·have hj:j<n5:=by omega
  obtain ⟨b2,o2,x5,rfl,-,-,hx,e0⟩:=B8.arcs.sa.int (k:=j) hj
  obtain ⟨a,ha⟩:∃ a,L[j]? = some a:=⟨_,List.getElem?_eq_getElem (by omega)⟩
  have hxa:x5=(a:Int):=by simp [ints,ha] at hx; exact hx.symm
  subst hxa
  have han:=(B8.fld.mem a (List.mem_of_getElem? ha)).1
  have hto:=(NetD.to_lt G.ok han).1
  refine ⟨j,rfl,b2,o2,rfl,hj,_,e0,aTo (G2.nw B8.nw) han ⟨_,rfl,aOuts (G2.nw B8.nw) hto fun A6 K6 h10 s6 k6=>⟨_,_,_,rfl,?_⟩⟩⟩
  have hfl:(N.from_ (N.to a)).length≤1000:=Nat.le_trans (takeN_len _ _) hna
  obtain ⟨bs,hbs⟩:∃ bs,N.from_ (N.to a)=bs:=⟨_,rfl⟩
  rw [hbs] at s6 hfl ⊢
  have B10:=B8.next k6
  have hDt:∀ b,D b→b<h10.next:=fun b hb=>(B10.dlo b hb).2.1
  obtain ⟨t1,t2,t3,t4,t5⟩:=B10.pos
  refine ⟨fun m A7 n7 K7 A8 n8 K8 x h11=>∃ (q:Nat) (L':List Nat),x=q∧q≤bs.length∧m=bs.length - q∧AB h2 N p c h3.next h5.next D A14 K14 j S h11 A7 n7 K7 L'∧L'[j]? = some a∧(∀ b∈bs.take q,N.aIn (N.outs p 1 c) a b→b∈L')∧OwnP cTri h11 (ownB A8) 284 A8 n8 K8 (N.aRow (N.outs p 1 c) L' a (bs.take q))∧(∀ b,ownB A8 b→h10.next≤b∧¬ ownB A7 b)∧Nw h10 h10∧h10.next≤h11.next∧Sa cI (fun b=>h8.next≤b∧b<h10.next∧¬ ownB (some ⟨b2,o2,none⟩) b) h11 A6 bs.length K6 (ints bs)∧(∀ b,ownB A7 b→ownB (some ⟨b2,o2,none⟩) b∨h10.next≤b),bs.length,⟨0,L,rfl,Nat.zero_le _,rfl,B10,ha,by simp,OwnP.nil _ _ _ _,fun b hb=>hb.elim,Nw.refl _,Nat.le_refl _,s6.mono fun b hb hlt=>⟨hb,hlt,fun ho=>by have:=B8.arcs.own ho; omega⟩,fun b hb=>.inl hb⟩,?_⟩
  rintro m A7 n7 K7 A8 n8 K8 x h11 ⟨q,L',rfl,hq,rfl,B11,ha',hcl,o8,u8,-,hz11,s11,hA7⟩
  have hn8:n8≤1000:=by
   have h1:=o8.len
   have h2:=aRow_len N (N.outs p 1 c) L' a (bs.take q)
   have h3:(bs.take q).length≤bs.length:=by rw [List.length_take]; omega
   omega
  refine ⟨fun hlt=>?_,fun hge=>?_⟩
  ·have hql:q<bs.length:=by omega
   obtain ⟨b3,o3',x8,hA6,-,-,hx8,f0⟩:=s11.int (k:=q) hql
   obtain ⟨b,hb⟩:∃ b,bs[q]? = some b:=⟨_,List.getElem?_eq_getElem (by omega)⟩
   have hxb:x8=(b:Int):=by simp [ints,hb] at hx8; exact hx8.symm
   subst hxb
   have hbn:b<N.na:=((NetD.mem_from G.ok).1 (by rw [hbs]; exact List.mem_of_getElem? hb)).1
   have tb:=NetD.turn_bd G.ok a b
   have wb:=NetD.w_bd G.ok b
   refine ⟨q,rfl,b3,o3',hA6,hql,_,f0,aTurn (G2.nw B11.nw) han hbn fun h12 k12=>⟨_,rfl,aWeight (G2.nw (B11.nw.trans k12)) hbn ⟨_,rfl,?_⟩⟩⟩
   have B12:=B11.next k12
   have o12:=o8.nw k12
   have s12:=s11.nw k12
   have hz12:=k12.next
   have hrow:=aRow_succ (N:=N) (outs:=N.outs p 1 c) (L:=L') (a:=a) hb
   have w1:IntKind.i64.wrap ((q:Int)+1)=((q+1:Nat):Int):=by rw [Int.natCast_succ]; exact wr_ok (by omega) (by omega)
   have skip:N.aStep (N.outs p 1 c) L' a b=none→¬ N.aIn (N.outs p 1 c) a b→∃ x11:Int,IntKind.i64.wrap ((q:Int)+1)=x11∧∃ m':Nat,m' < bs.length - q∧∃ (q':Nat) (L'':List Nat),x11=q'∧q'≤bs.length∧m' = bs.length - q'∧AB h2 N p c h3.next h5.next D A14 K14 j S h12 A7 n7 K7 L''∧L''[j]? = some a∧(∀ b∈bs.take q',N.aIn (N.outs p 1 c) a b→b∈L'')∧OwnP cTri h12 (ownB A8) 284 A8 n8 K8 (N.aRow (N.outs p 1 c) L'' a (bs.take q'))∧(∀ b,ownB A8 b→h10.next≤b∧¬ ownB A7 b)∧Nw h10 h10∧h10.next≤h12.next∧Sa cI (fun b=>h8.next≤b∧b<h10.next∧¬ ownB (some ⟨b2,o2,none⟩) b) h12 A6 bs.length K6 (ints bs)∧(∀ b,ownB A7 b→ownB (some ⟨b2,o2,none⟩) b∨h10.next≤b):=fun hs hi=>by
    refine ⟨_,w1,bs.length - (q+1),by omega,q+1,L',rfl,hql,rfl,B12,ha',fun y hy hin=>?_,?_,u8,Nw.refl _,by omega,s12,hA7⟩
    ·rw [List.take_add_one,hb] at hy
     rcases List.mem_append.1 hy with hy | hy
     ·exact hcl y hy hin
     ·simp at hy; subst hy; exact absurd hin hi
    ·rw [hrow,hs]; simpa using o12
   refine ⟨fun hge=>?_,fun hlt2=>?_⟩
   ·exact skip (by unfold NetD.aStep; rw [if_pos hge]) (fun hin=>by have:=hin.1; unfold INF at this; omega)
   have ht:N.turn a b<INF:=Int.not_le.1 hlt2
   refine ⟨_,_,_,ldC_of (B12.nw.bk (by omega) gb) rfl,aPlace b (s22.nw B12.nw) (takeN_asc _ _) (by omega) ⟨_,rfl,fun hpl=>?_,fun hpl=>?_⟩⟩
   ·
    have hbo:=placeI_nn.1 hpl
    have hplI:placeI (N.outs p 1 c) b=(((N.outs p 1 c).idxOf b:Nat):Int):=by unfold placeI; rw [if_pos hbo]
    rw [hplI]
    intro h15 e15
    obtain ⟨A10,K10,h16,y1,y2,y3,y4,y5⟩:=pushStp o12 (by omega) (0,(((N.outs p 1 c).idxOf b:Nat):Int),N.turn a b) e15
    refine ⟨A10,n8+1,K10,h16,y1,_,w1,bs.length - (q+1),by omega,q+1,L',rfl,hql,rfl,B12.off y3 u8 ⟨t4,t5,hDt⟩,ha',fun y hy hin=>?_,?_,fun z hz=>?_,Nw.refl _,by omega,s12.off y3 fun z hz ho=>by have:=(u8 z ho).1; omega,hA7⟩
    ·rw [List.take_add_one,hb] at hy
     rcases List.mem_append.1 hy with hy | hy
     ·exact hcl y hy hin
     ·simp at hy; subst hy; exact absurd hbo hin.2.1
    ·rw [hrow,aStep_out ht hbo]; exact y2
    ·rcases y5 z hz with h9 | h9
     ·exact u8 z h9
     ·exact ⟨by omega,fun ho=>by have:=B12.arcs.own ho; omega⟩
   have hbo:b ∉ N.outs p 1 c:=fun hm=>hpl (placeI_nn.2 hm)
   refine ⟨fun hwge=>?_,fun hwlt=>?_⟩
   ·exact skip (by unfold NetD.aStep; rw [if_neg hlt2,if_neg hbo,if_pos hwge]) (fun hin=>by have:=hin.2.2; unfold INF at this; omega)
   have hw:N.w b<INF:=Int.not_le.1 hwlt
   have hin:N.aIn (N.outs p 1 c) a b:=⟨ht,hbo,hw⟩
   have wc:IntKind.i64.wrap (N.turn a b+N.w b)=N.turn a b+N.w b:=wr_ok (by omega) (by unfold INF at ht hw; omega)
   refine ⟨_,_,mapLook B12.map_ b,fun hbL=>?_,fun hbL=>?_⟩
   ·
    have hbm:b∈L':=of_decide_eq_true hbL
    rw [if_pos hbm]
    refine ⟨_,wc,fun h17 e17=>?_⟩
    obtain ⟨A10,K10,h16,y1,y2,y3,y4,y5⟩:=pushStp o12 (by omega) (((L'.idxOf b:Nat):Int),-1,N.turn a b+N.w b) e17
    refine ⟨A10,n8+1,K10,h16,y1,_,w1,bs.length - (q+1),by omega,q+1,L',rfl,hql,rfl,B12.off y3 u8 ⟨t4,t5,hDt⟩,ha',fun y hy hin'=>?_,?_,fun z hz=>?_,Nw.refl _,by omega,s12.off y3 fun z hz ho=>by have:=(u8 z ho).1; omega,hA7⟩
    ·rw [List.take_add_one,hb] at hy
     rcases List.mem_append.1 hy with hy | hy
     ·exact hcl y hy hin'
     ·simp at hy; subst hy; exact hbm
    ·rw [hrow,aStep_in hin]; exact y2
    ·rcases y5 z hz with h9 | h9
     ·exact u8 z h9
     ·exact ⟨by omega,fun ho=>by have:=B12.arcs.own ho; omega⟩
   ·
    have hbm:b ∉ L':=of_decide_eq_false hbL
    obtain ⟨h19,u1,u2⟩:=B12.grow G.ok (by omega) ha' hin hbm
    refine ⟨h19,u1,fun h20 e20=>?_⟩
    obtain ⟨A12,K12,h21,v1,B21,v2,v3,v4⟩:=u2 h20 e20
    have o21:OwnP cTri h21 (ownB A8) 284 A8 n8 K8 (N.aRow (N.outs p 1 c) L' a (bs.take q)):=o12.keep (fun z hz hlt=>v4 z hlt (fun e=>by have:=(u8 z hz).1; omega) (u8 z hz).2) v3
    refine ⟨A12,n7+1,K12,h21,v1,_,wc,fun h22 e22=>?_⟩
    obtain ⟨A10,K10,h23,y1,y2,y3,y4,y5⟩:=pushStp o21 (by omega) ((n7:Int),-1,N.turn a b+N.w b) e22
    have h8':∀ z,ownB A8 z→h10.next≤z∧¬ ownB A12 z:=fun z hz=>⟨(u8 z hz).1,fun ho=>(v2 z ho).elim (u8 z hz).2 fun h=>by have:=o12.own hz; omega⟩
    have s21:=s12.keep (fun z hz hlt=>v4 z hlt (fun e=>hz.2.2 ((by subst e; exact absurd hz.1 (by have:=B8.pos; omega)))) (fun ho=>(hA7 z ho).elim hz.2.2 fun h=>by omega)) v3
    have hl7:=B12.len
    refine ⟨A10,n8+1,K10,h23,y1,_,w1,bs.length - (q+1),by omega,q+1,L' ++ [b],rfl,hql,rfl,B21.off y3 h8' ⟨t4,t5,hDt⟩,by rw [List.getElem?_append_left (List.getElem?_eq_some_iff.1 ha').1]; exact ha',fun y hy hin'=>?_,?_,fun z hz=>?_,Nw.refl _,by omega,s21.off y3 fun z hz ho=>by have:=(u8 z ho).1; omega,fun z hz=>(v2 z hz).elim (hA7 z) fun h=>.inr (by omega)⟩
    ·rw [List.take_add_one,hb] at hy
     rcases List.mem_append.1 hy with hy | hy
     ·exact List.mem_append_left _ (hcl y hy hin')
     ·simp at hy; subst hy; simp
    ·rw [aRow_succ hb,aStep_in hin,aRow_app hcl,List.idxOf_append,if_neg hbm]
     have:L'.length=n7:=hl7
     simpa [this] using y2
    ·rcases y5 z hz with h9 | h9
     ·exact h8' z h9
     ·exact ⟨by omega,fun ho=>by have:=B21.arcs.own ho; omega⟩
  ·
   obtain rfl:q=bs.length:=by omega
   rw [List.take_length] at hcl o8
   refine ⟨_,_,_,ldC_of B11.sbx rfl,fun h24 e24=>?_⟩
   obtain ⟨k24,g24,z24⟩:=news e24
   have own24:=B11.stp.nw k24
   have hz:Sz (Rc.slice cTri) (fun z=>z=h11.next∨ownB A8 z) h24 (some ⟨h11.next,0,none⟩) 1 2 [N.aRow (N.outs p 1 c) L' a bs]:=
    Sz.one g24 (.inl rfl) (by omega) rfl ⟨A8,n8,K8,rfl,(o8.nw k24).sa.mono fun z hz _=>.inr hz⟩
   have hi14:j≤1000:=by have:=B11.fld.le; have:=B11.fld.len; omega
   have nD:∀ {z},D z→z<h10.next:=fun hd=>hDt _ hd
   have h14D:∀ z,ownB A14 z→D z:=fun z hz=>(B11.stp.lt hz).1
   obtain ⟨A15,K15,h25,y1,y2,y3,y4⟩:=app_rows (r:=Rc.slice cTri) (bytes:=24) tySs own24 hz (fun z hz ho=>by
    have:=nD (h14D z ho)
    rcases hz with h9 | h9
    ·omega
    ·have:=(u8 z h9).1; omega) (by omega) (by omega)
   obtain ⟨p1,p2,p3,p4,p5⟩:=B11.pos
   have z25:=y3.next
   have sb25:Bk h25 h5.next [.slice A14 j K14] 281:=y3.bk (by omega) (fun ho=>(B11.dlo _ (h14D _ ho)).2.2.2 rfl) (k24.bk p5 B11.sbx)
   obtain ⟨h26,s26,b26,z26,o26⟩:=st_one (v:=.slice A15 (j+1) K15) sb25 (o:=0) (by simp) rfl
   have same:∀ z,z<h11.next→z≠h5.next→¬ ownB A14 z→h26.get z=h11.get z:=fun z hz h1 h2=>(o26 z h1).trans ((y3.get z (by omega) h2).trans (k24.get z hz))
   have w1:IntKind.i64.wrap ((j:Int)+1)=((j+1:Nat):Int):=by rw [Int.natCast_succ]; exact wr_ok (by omega) (by omega)
   refine ⟨A15,j+1,K15,h25,y1,h26,s26,_,w1,N.na - (j+1),by have:=B11.fld.le; have:=B11.fld.len; omega,j+1,L',S ++ [N.aRow (N.outs p 1 c) L' a bs],A15,K15,fun b=>(D b∨(b=h11.next∨ownB A8 b)∨b=h24.next)∧b<h25.next,rfl,rfl,⟨⟨by have:=B11.nw.next; omega,fun z hz=>(same z (by have:=B11.nw.next; omega) (by omega) (fun ho=>by have:=(B11.dlo z (h14D z ho)).1; omega)).trans (B11.nw.get z hz)⟩,by rw [← hbs]; exact B11.fld.next G.ok ha' (by rw [hbs]; exact hcl),B11.len,?_,?_,b26,?_,fun z hz=>?_,fun z hz=>?_,by omega⟩,fun r hr=>?_⟩
   ·exact B11.arcs.keep (fun z hz hlt=>same z hlt (B11.alo z hz).2.2.1 (fun ho=>(B11.alo z hz).2.2.2 (h14D z ho))) (by omega)
   ·exact B11.map_.keep (same _ (by omega) (by omega) (fun ho=>(B11.dlo _ (h14D _ ho)).2.2.1 rfl))
   ·refine (y2.mono (D':=fun b=>(D b∨(b=h11.next∨ownB A8 b)∨b=h24.next)∧b<h25.next) fun z hz hlt=>⟨hz,hlt⟩).keep (fun z hz hlt=>o26 z ?_) (by omega)
    rcases hz.1 with h9 | (h9 | h9) | h9
    ·exact (B11.dlo z h9).2.2.2
    ·omega
    ·have:=(u8 z h9).1; omega
    ·omega
   ·have e2:=hz.2
    rcases hz.1 with h9 | (h9 | h9) | h9
    ·have:=B11.dlo z h9; omega
    ·omega
    ·have:=(u8 z h9).1; omega
    ·omega
   ·obtain ⟨a1,a2,a3,a4⟩:=B11.alo z hz
    have:=B11.arcs.own hz
    refine ⟨a1,a2,a3,fun h9=>?_⟩
    rcases h9.1 with h9 | (h9 | h9) | h9
    ·exact a4 h9
    ·omega
    ·exact (u8 z h9).2 hz
    ·omega
   ·rcases List.mem_append.1 hr with hr | hr
    ·exact hS r hr
    ·simp at hr
     subst hr
     have:=aRow_len N (N.outs p 1 c) L' a bs
     omega
 ·
  have hjL:j=L.length:=by have:=B8.fld.le; omega
  intro h27 e27
  obtain ⟨h28,s28,k28,g28,z28⟩:=box_st (vs:=[.int .i64 n5,.slice none 0 0,.nilFunc]) e27 rfl (flat3 rfl rfl rfl)
  have nw28:=B8.nw.trans k28
  obtain ⟨p1,p2,p3,p4,p5⟩:=B8.pos
  refine ⟨h28,s28,_,_,_,ldC_of (nw28.bk (by omega) gb) rfl,fun m x h29=>∃ (q:Nat) (A17:Option Addr) (K17:Nat),x=q∧q≤i∧m=i - q∧Bk h29 h8.next [.int .i64 n5,.slice A17 q K17,.nilFunc] 206∧OwnP cI h29 (ownB A17) 3 A17 q K17 (ints (List.range q))∧(∀ b,ownB A17 b→h28.next≤b)∧h28.next≤h29.next∧(∀ b,b<h28.next→b≠h8.next→h29.get b=h28.get b),i,⟨0,none,0,rfl,Nat.zero_le _,rfl,g28,OwnP.nil _ _ _ _,fun b hb=>hb.elim,Nat.le_refl _,fun _ _ _=>rfl⟩,?_⟩
  rintro m x h29 ⟨q,A17,K17,rfl,hq,rfl,b29,o29,lo29,hz29,q29⟩
  refine ⟨fun hlt=>?_,fun hge=>?_⟩
  ·refine ⟨_,_,_,ldC_of b29 rfl,fun h30 e30=>?_⟩
   obtain ⟨k30,g30,z30⟩:=news e30
   have hz:Sz cI (fun z=>z=h29.next) h30 (some ⟨h29.next,0,none⟩) 1 2 [(q:Int)]:=Sz.one g30 rfl (by omega) rfl rfl
   obtain ⟨A18,K18,h31,y1,y2,y3,y4⟩:=app_row (free_int _) (r:=cI) tyI8 (o29.nw k30) hz (by omega) (by omega)
   have z31:=y3.next
   have b31:Bk h31 h8.next [.int .i64 n5,.slice A17 q K17,.nilFunc] 206:=y3.bk (by omega) (fun ho=>by have:=lo29 _ ho; omega) (k30.bk (by omega) b29)
   obtain ⟨h32,s32,b32,z32,o32⟩:=st_one (v:=.slice A18 (q+1) K18) b31 (o:=1) (by simp) rfl
   have lo18:∀ z,ownB A18 z→h28.next≤z:=fun z hz=>(y4 z hz).elim (lo29 z) (fun h=>by omega)
   refine ⟨A18,q+1,K18,h31,y1,h32,s32,_,wr_ok (by omega) (by omega),i - (q+1),by omega,q+1,A18,K18,by omega,by omega,rfl,b32,?_,lo18,by omega,fun z hz hne=>(o32 z hne).trans ((y3.get z (by omega) (fun ho=>by have:=lo29 _ ho; omega)).trans ((k30.get z (by omega)).trans (q29 z hz hne)))⟩
   have:ints (List.range (q+1))=ints (List.range q) ++ [(q:Int)]:=by simp [ints,List.range_succ]
   rw [this]
   exact y2.keep (fun z hz _=>o32 z (by have:=lo18 z hz; omega)) (by omega)
  ·obtain rfl:q=i:=by omega
   obtain ⟨h33,s33,b33,z33,o33⟩:=st_one (v:=.func (.func 157) #[] #[.pointer (some ⟨h5.next,0,none⟩)]) b29 (o:=2) (by simp) rfl
   have f33:Bk h33 h1.next [.int .i64 0,.slice none 0 0,.nilFunc] 206:=(o33 _ (by omega)).trans ((q29 _ (by omega) (by omega)).trans (nw28.bk (by omega) g2))
   obtain ⟨h34,s34,b34,z34,o34⟩:=st_all (vs:=[.int .i64 n5,.slice A17 q K17,.func (.func 157) #[] #[.pointer (some ⟨h5.next,0,none⟩)]]) f33 rfl (flat3 rfl rfl rfl)
   have same:∀ z,z<h28.next→z≠h8.next→z≠h1.next→h34.get z=h28.get z:=fun z hz h1 h2=>(o34 z h2).trans ((o33 z h1).trans (q29 z hz h1))
   refine ⟨h33,s33,_,_,_,_,_,_,ldN_bk b33 (by simp),h34,s34,_,_,_,_,_,_,ldN_bk b34 (by simp),?_⟩
   have hnw:Nw h h34:=⟨by omega,fun z hz=>(same z (by omega) (by omega) (by omega)).trans ((nw28.get z (by omega)).trans ((k1.trans k2).get z hz))⟩
   have hA17:Sa cI (fun b=>h.next≤b) h34 A17 q K17 (ints (List.range q)):=((o29.keep (fun z hz _=>(o34 z (by have:=lo29 z hz; omega)).trans (o33 z (by have:=lo29 z hz; omega))) (by omega)).sa).mono fun z hz _=>by have:=lo29 z hz; omega
   have hsb:Bk h34 h5.next [.slice A14 j K14] 281:=(same _ (by omega) (by omega) (by omega)).trans (k28.bk p5 B8.sbx)
   have hst:Sa (Rc.slice cTri) D h34 A14 j K14 S:=B8.stp.sa.keep (fun z hz hlt=>(same z (by omega) (by omega) (by have:=(B8.dlo z hz).1; omega)).trans (k28.get z hlt)) (by omega)
   have hnx:NextOk h34 157 #[.pointer (some ⟨h5.next,0,none⟩)] j (stepsOf S):=nextArcs (by omega) (ldC_of hsb rfl) hst (fun r hr=>by have:=hS r hr; omega)
   have hfl:=B8.fld
   rw [hjL] at hnx hfl
   have:=hK L S h5.next A17 K17 h34 hfl hnx hA17 hnw
   rw [hLn] at this
   exact this
end
end Eva
end
section
open Go Go.RowKit
def toldP (costs:List Int) (first:Nat) (ls:List Stp) (j:Nat):List Stp:=(List.range j).filterMap (told1 costs first ls)
theorem toldP_succ (costs:List Int) (first:Nat) (ls:List Stp) (j:Nat):toldP costs first ls (j+1)=toldP costs first ls j ++ (told1 costs first ls j).toList:=by
 unfold toldP
 rw [List.range_succ,List.filterMap_append]
 cases h:told1 costs first ls j <;> simp [List.filterMap_cons,h]
theorem toldP_more (costs:List Int) (first:Nat) (ls:List Stp) {j n:Nat} (h:j≤n):∃ M,toldP costs first ls n=toldP costs first ls j ++ M:=by
 induction n with
 | zero=>obtain rfl:=Nat.le_zero.1 h; exact ⟨[],by simp⟩
 | succ n ih=>
  rcases Nat.eq_or_lt_of_le h with rfl | h1
  ·exact ⟨[],by simp⟩
  ·obtain ⟨M,hM⟩:=ih (by omega)
   exact ⟨M ++ (told1 costs first ls n).toList,by rw [toldP_succ,hM,List.append_assoc]⟩
theorem toldP_get {costs:List Int} {first:Nat} {ls:List Stp} {j:Nat} {s:Stp} (hj:j<ls.length) (h:told1 costs first ls j=some s):(toldK costs first ls)[(toldP costs first ls j).length]? = some s:=by
 obtain ⟨M,hM⟩:=toldP_more costs first ls (show j+1≤ls.length from hj)
 rw [toldP_succ,h] at hM
 show (toldP costs first ls ls.length)[_]? = _
 rw [hM,List.append_assoc,List.getElem?_append_right (Nat.le_refl _),Nat.sub_self]
 rfl
theorem kid_next {N:NetD} {p:List (List Int)} {k c:Nat} {ks:List Nat} (hK:KidsIn N p k c ks) (hok:N.Ok) (hp:PartOk N.nv p) (hk:2≤k) (hkl:k≤p.length) {d m:Nat} (hd:d∈ks) (hm:m∈N.outs p (k - 1) d) (hn:m ∉ N.outs p k c):m∈N.LK p k ks ks.length:=by
 obtain ⟨g1,g2,g3⟩:=NetD.mem_outs.1 hm
 obtain ⟨v,v1,v2,v3⟩:=(hK.mem d).1 hd
 have hf:=(NetD.fr_lt hok g1).1
 have e1:cel p k (N.fr m)=cel p k v:=cel_nest hp (l:=k - 1) (by omega) (by omega) hkl hf v1 (g2.trans v3.symm)
 have e2:cel p k (N.to m)=c:=by
  by_cases e:cel p k (N.to m)=c
  ·exact e
  ·exact absurd (NetD.mem_outs.2 ⟨g1,e1.trans v2,e⟩) hn
 exact (hK.in_kid hok hp hk hkl).2 ⟨g1,e2,rfl,by rw [g2]; exact fun h=>g3 h.symm⟩
namespace Eva
section
variable {h h0:AH} {Q:Value→AH→Prop} {F F1 F2 F3:Nat→Prop} {A1 A2 A3:Option Addr} {n n2 n3 K1 K2 K3:Nat}
theorem nextKids {spots:List (Int × Int)} {lists:List (List Stp)} {costs:List Int} {sp lb cb:Nat} (hlt:sp<h0.next∧lb<h0.next∧cb<h0.next) (b1:ldC h0 sp 0=some (.slice A1 n K1)) (s1:Sa cPr F1 h0 A1 n K1 spots) (b2:ldC h0 lb 0=some (.slice A2 n2 K2)) (s2:Sa (Rc.slice cTri) F2 h0 A2 n2 K2 lists) (b3:ldC h0 cb 0=some (.slice A3 n3 K3)) (s3:Sa cI F3 h0 A3 n3 K3 costs)
  (hn3:n3≤1000000) (hsp:∀ x∈spots,∃ i r,x.2=((i:Nat):Int)∧lists[i]? = some r∧r.length≤100000∧(r = []∨(0≤x.1∧x.1.toNat+r.length≤n3))) (hc:∀ c∈costs,0≤c) (hl:∀ r∈lists,∀ s∈r,0≤s.2.2) :
  NextOk h0 161 #[.pointer (some ⟨sp,0,none⟩),.pointer (some ⟨lb,0,none⟩),.pointer (some ⟨cb,0,none⟩)] n (fun q=>match spots[q]? with | some x=>toldK costs x.1.toNat ((lists[x.2.toNat]?).getD []) | none=>[]):=by
 refine ⟨by kernel_rfl,fun a ha h tg tfb J Q hJn hJs htg htell hJ0 hQ=>?_⟩
 have nw0:=hJn 0 h hJ0
 obtain ⟨ba,oa,x,y,rfl,-,hba,hx,e0,e1⟩:=s1.pair (k:=a) ha
 obtain ⟨i,r,hi,hr,hrl,hrr⟩:=hsp (x,y) (List.mem_of_getElem? hx)
 simp only at hi hrr
 subst hi
 have hin2:i<n2:=by rw [← s2.len]; exact (List.getElem?_eq_some_iff.1 hr).1
 obtain ⟨bb,ob,A4,n4,K4,r',rfl,-,hbb,hr',f0,s4⟩:=s2.row (k:=i) hin2
 rw [hr] at hr'
 injection hr' with hr'
 subst hr'
 have hn4:r.length=n4:=s4.len
 simp only [hx,Int.toNat_natCast,hr,Option.getD_some] at htell hQ
 have hcl:=s3.len
 refine w_fill_byKids_1 ⟨sp,0,rfl,_,_,_,(nw0.ldC hlt.1 0).trans b1,a,rfl,_,_,rfl,ha,_,(nw0.ldC hba _).trans e0,lb,0,rfl,_,_,_,(nw0.ldC hlt.2.1 0).trans b2,_,_,_,(nw0.ldC hlt.1 0).trans b1,_,_,rfl,ha,_,(nw0.ldC hba _).trans e1,i,rfl,_,_,rfl,hin2,_,_,_,(nw0.ldC hbb _).trans f0,
  fun m z h1=>∃ j:Nat,z=j∧j≤n4∧m=n4 - j∧J (toldP costs x.toNat r j).length h1,n4,⟨0,rfl,Nat.zero_le _,rfl,hJ0⟩,?_⟩
 rintro m z h1 ⟨j,rfl,hj,rfl,hJ1⟩
 refine ⟨fun hlt'=>?_,fun hge=>?_⟩
 ·have hjn:j<n4:=by omega
  have nw1:=hJn _ _ hJ1
  obtain ⟨bt,ot,x5,x6,x7,rfl,-,-,hx5,t0,t1,t2⟩:=(s4.nw nw1).tri (k:=j) hjn
  have hx7:0≤x7:=hl r (List.mem_of_getElem? hr) _ (List.mem_of_getElem? hx5)
  have hx0:0≤x∧x.toNat+r.length≤n3:=hrr.resolve_left (fun e=>by rw [e] at hx5; simp at hx5)
  obtain ⟨f,rfl⟩:=Int.eq_ofNat_of_zero_le hx0.1
  simp only [Int.toNat_natCast] at hx0 hJ1 htell hQ ⊢
  refine ⟨j,rfl,_,_,rfl,hjn,_,_,_,ldN3 t0 t1 t2,fun h2 e2=>?_⟩
  obtain ⟨h3,q3,k3,g3,z3⟩:=box_st (vs:=[.int .i64 x5,.int .i64 x6,.int .i64 x7]) e2 rfl (flat3 rfl rfl rfl)
  have nw3:=nw1.trans k3
  have w8:IntKind.i64.wrap ((f:Int)+(j:Int))=((f+j:Nat):Int):=by rw [Int.natCast_add]; exact wr_ok (by omega) (by omega)
  have w1:IntKind.i64.wrap ((j:Int)+1)=((j+1:Nat):Int):=by rw [Int.natCast_succ]; exact wr_ok (by omega) (by omega)
  obtain ⟨b8,o8,x10,hA3,-,-,hx10,c0⟩:=(s3.nw nw3).int (k:=f+j) (by omega)
  have h10:at_ costs (f+j)=x10:=by unfold at_; rw [hx10]; rfl
  have hx10n:=hc _ (List.mem_of_getElem? hx10)
  have hsk:told1 costs f r j=none→∃ x19:Int,IntKind.i64.wrap ((j:Int)+1)=x19∧∃ m':Nat,m' < n4 - j∧∃ j':Nat,x19=j'∧j'≤n4∧m' = n4 - j'∧J (toldP costs f r j').length h3:=fun ht=>by
   refine ⟨_,w1,n4 - (j+1),by omega,j+1,rfl,by omega,rfl,?_⟩
   rw [toldP_succ,ht]
   simpa using hJs _ _ _ hJ1 k3
  refine ⟨h3,q3,_,w8,cb,0,rfl,_,_,_,(nw3.ldC hlt.2.2 0).trans b3,fun h=>absurd h (by omega),fun _=>⟨_,_,_,(nw3.ldC hlt.2.2 0).trans b3,_,w8,f+j,rfl,b8,o8,hA3,by omega,_,c0,fun ht=>⟨_,ldC_of g3 rfl,fun hs=>?_,fun hs=>?_⟩,fun ht=>?_⟩⟩
  ·have ht1:told1 costs f r j=some (x5,x6,x7+x10):=by
    unfold told1
    rw [hx5]
    simp only [h10]
    rw [if_pos ⟨ht,hs⟩]
   obtain ⟨h4,q4,g4,z4,o4⟩:=st_one (v:=.int .i64 (x7+x10)) g3 (o:=2) (by simp) rfl
   have k4:Nw h1 h4:=⟨by have:=k3.next; omega,fun b hb=>(o4 b (by omega)).trans (k3.get b hb)⟩
   refine ⟨_,ldC_of g3 rfl,_,wr_ok (by omega) (by omega),h4,q4,_,_,_,ldN_bk g4 (by simp),htg,?_⟩
   refine htell _ (x5,x6,x7+x10) h4 _ (hJs _ _ _ hJ1 k4) (toldP_get (by omega) ht1) fun h5 hJ5=>⟨rfl,_,w1,n4 - (j+1),by omega,j+1,rfl,by omega,rfl,?_⟩
   rw [toldP_succ,ht1]
   simpa using hJ5
  ·exact hsk (by unfold told1; rw [hx5]; simp only [h10]; rw [if_neg (fun h=>hs h.2)])
  ·exact hsk (by unfold told1; rw [hx5]; simp only [h10]; rw [if_neg (fun h=>ht h.1)])
 ·obtain rfl:j=r.length:=by omega
  exact hQ h1 hJ1
theorem oAt0 {o:Nat} {N:NetD} {p:List (List Int)} (O:OvA h F o N p) {k d j:Nat} (hk:2≤k) (hkl:k≤p.length) (hd:d<most p (k - 1)) (hj:j<(N.ins p (k - 1) d).length)
  (hK:∀ h',Nw h h'→Q (.int .i64 (N.firstK p k d j)) h'):WC Tryz.prog 47 [.pointer (some ⟨o,0,none⟩),.int .i64 ((k - 1:Nat):Int),.int .i64 d,.int .i64 j,.int .i64 0] h Q:=by
 unfold NetD.firstK at hK
 rcases Nat.eq_zero_or_pos (N.outs p (k - 1) d).length with h0 | h0
 ·have he:N.outs p (k - 1) d = []:=List.eq_nil_of_length_eq_zero h0
  rw [if_pos he] at hK
  obtain ⟨k',rfl⟩:∃ k',k=k' + 2:=⟨k - 2,by omega⟩
  have e1:k' + 2 - 1=k' + 1:=rfl
  rw [e1] at hd hj h0 ⊢
  have hp6:=O.hp.few
  obtain ⟨b1,o1,n1,K1,b2,o2,K2,A3,K3,A4,K4,c3,hkn,l1,e2,l2,e3,e4,s3,s4⟩:=O.gate_ (k:=k') (by omega) hd
  rw [h0] at e4
  refine w_over_Over_At (oHas O (by omega) (by omega) hd ⟨_,rfl,fun _=>?_,fun h=>Bool.noConfusion h⟩)
  refine ⟨_,_,rfl,_,_,_,c3,_,wr_ok (by omega) (by omega),k',by omega,_,_,rfl,hkn,_,_,_,e2,d,rfl,_,_,rfl,hd,_,_,_,_,_,_,ldN2 e3 e4,fun h2 e7=>?_⟩
  obtain ⟨h3,hs3,k3,g3,z3⟩:=box_st (vs:=[.slice A3 (N.ins p (k' + 1) d).length K3,.slice A4 0 K4]) e7 rfl (flat2 rfl rfl)
  exact ⟨h3,hs3,fun h=>absurd h (by omega),fun _=>⟨_,_,_,ldC_of g3 rfl,fun h=>absurd h (by omega),fun _=>⟨fun h=>absurd h (by omega),fun _=>⟨_,_,_,ldC_of g3 rfl,fun _=>hK _ k3,fun h=>absurd (Int.le_refl _) h⟩⟩⟩⟩
 ·rw [if_neg (fun e=>by rw [e] at h0; simp at h0)] at hK
  refine oAt O (j:=0) (by omega) (by omega) hd hj h0 fun h' k'=>?_
  have:=hK h' k'
  rwa [Nat.add_zero]
end
end Eva
end
section
open Go Go.RowKit
namespace Eva
theorem tyG:tyB Tryz.prog 202 2 48=true:=by kernel_rfl
theorem tySp:tyB Tryz.prog 289 2 16=true:=by kernel_rfl
def gatesK (N:NetD) (p:List (List Int)) (k:Nat) (ks:List Nat) (i:Nat):List (List Int × List Int):=(List.range i).map fun j=>(ints (N.ins p (k - 1) ((ks[j]?).getD 0)),ints (N.outs p (k - 1) ((ks[j]?).getD 0)))
theorem gatesK_succ (N:NetD) (p:List (List Int)) (k:Nat) (ks:List Nat) (i:Nat):gatesK N p k ks (i+1)=gatesK N p k ks i ++ [(ints (N.ins p (k - 1) ((ks[i]?).getD 0)),ints (N.outs p (k - 1) ((ks[i]?).getD 0)))]:=by
 unfold gatesK
 rw [List.range_succ,List.map_append]; rfl
structure KB (h0:AH) (lo pm sb:Nat) (D:Nat→Prop) (A5:Option Addr) (i K5:Nat) (gs:List (List Int × List Int)) (h:AH) (L:List Nat) (sp:List (Int × Int)):Prop where
 nw:Nw h0 h
 gates:OwnP Rc.gate h D 202 A5 i K5 gs
 map_:MapF kN h pm (pmF L)
 spt:∃ A12 K12,Bk h sb [.slice A12 L.length K12] 286∧OwnP cPr h (ownB A12) 289 A12 L.length K12 sp∧(∀ b,ownB A12 b→lo≤b∧b≠pm∧b≠sb∧¬ D b)
 dlo:∀ b,D b→lo≤b∧b<h.next∧b≠pm∧b≠sb
 pos:h0.next≤pm∧h0.next≤sb∧pm≠sb∧pm<h.next∧sb<h.next
 hlo:h0.next≤lo∧lo≤h.next
section
variable {h h' h0:AH} {Q:Value→AH→Prop} {N:NetD} {p:List (List Int)} {lo pm sb:Nat} {D:Nat→Prop} {A5:Option Addr} {i K5:Nat} {gs:List (List Int × List Int)} {L:List Nat} {sp:List (Int × Int)} {a:Nat}
theorem KB.next (B:KB h0 lo pm sb D A5 i K5 gs h L sp) (a:Nw h h'):KB h0 lo pm sb D A5 i K5 gs h' L sp:=by
 obtain ⟨A12,K12,s1,s2,s3⟩:=B.spt
 obtain ⟨p1,p2,p3,p4,p5⟩:=B.pos
 have z:=a.next
 exact ⟨B.nw.trans a,B.gates.nw a,B.map_.keep (a.get _ p4),⟨A12,K12,a.bk p5 s1,s2.nw a,s3⟩,fun b hb=>by have:=B.dlo b hb; omega,by omega,by have:=B.hlo; omega⟩
theorem KB.push (B:KB h0 lo pm sb D A5 i K5 gs h L sp) (hn:a ∉ L) (hL:L.length≤2000):∃ A12 K12,ldC h sb 0=some (.slice A12 L.length K12)∧EqOk (.slice A12 L.length K12) ∧
  ∃ h14,lMap Tryz.prog h (some (.map 3 3)) (.map (some pm)) (.int .i64 (a:Int)) (.int .i64 (L.length:Int))=some (undef,h14)∧ldC h14 sb 0=some (.slice A12 L.length K12)∧h14.next=h.next∧(∀ b,b≠pm→h14.get b=h.get b) ∧
   ∀ h15 x y,Nw h14 h15→ldC h15 sb 0=some (.slice A12 L.length K12)∧∀ h16,h16=AH.new h15 (.cells [.int .i64 x,.int .i64 y] 289 false) →
    ∃ A14 K14 h17,lAppend Tryz.prog h16 (some (.slice 289)) (some (.slice 289)) (.slice A12 L.length K12) (.slice (some ⟨h15.next,0,none⟩) 1 2)=some (.slice A14 (L.length+1) K14,h17) ∧
     ∃ h18,stC h17 sb 0 [.slice A14 (L.length+1) K14]=some h18∧KB h0 lo pm sb D A5 i K5 gs h18 (L ++ [a]) (sp ++ [(x,y)])∧h.next≤h18.next∧(∀ b,b<h.next→b≠pm→b≠sb→(b<lo∨D b)→h18.get b=h.get b):=by
 obtain ⟨A12,K12,s1,s2,s3⟩:=B.spt
 obtain ⟨p1,p2,p3,p4,p5⟩:=B.pos
 obtain ⟨q1',q2'⟩:=B.hlo
 obtain ⟨h14,x1,x2,x3,x4⟩:=mapPut B.map_ hn
 have sb14:Bk h14 sb [.slice A12 L.length K12] 286:=(x4 _ (Ne.symm p3)).trans s1
 refine ⟨A12,K12,ldC_of s1 rfl,s2.spot,h14,x1,ldC_of sb14 rfl,x3,x4,fun h15 x y k15=>⟨ldC_of (k15.bk (by omega) sb14) rfl,fun h16 e16=>?_⟩⟩
 obtain ⟨k16,g16,z16⟩:=news e16
 have z15:=k15.next
 have o14:OwnP cPr h14 (ownB A12) 289 A12 L.length K12 sp:=s2.keep (fun b hb _=>x4 b (s3 b hb).2.1) (by omega)
 have hz:Sz cPr (fun z=>z=h15.next) h16 (some ⟨h15.next,0,none⟩) 1 2 [(x,y)]:=Sz.one g16 rfl (by omega) rfl rfl
 obtain ⟨A14,K14,h17,y1,y2,y3,y4⟩:=app_row (free_pair _ _) (r:=cPr) tySp (o14.nw (k15.trans k16)) hz (by omega) (by omega)
 have z17:=y3.next
 have sb17:Bk h17 sb [.slice A12 L.length K12] 286:=y3.bk (by omega) (fun ho=>(s3 _ ho).2.2.1 rfl) ((k15.trans k16).bk (by omega) sb14)
 obtain ⟨h18,q1,q2,q3,q4⟩:=st_one (v:=.slice A14 (L.length+1) K14) sb17 (o:=0) (by simp) rfl
 have same:∀ b,b<h.next→b≠pm→b≠sb→¬ ownB A12 b→h18.get b=h.get b:=fun b hb h1 h2 h3=>(q4 b h2).trans ((y3.get b (by omega) h3).trans (((k15.trans k16).get b (by omega)).trans (x4 b h1)))
 have nA:∀ {b},D b→¬ ownB A12 b:=fun hd ha=>(s3 _ ha).2.2.2 hd
 have lo14:∀ b,ownB A14 b→lo≤b∧b≠pm∧b≠sb∧¬ D b:=fun b hb=>by
  rcases y4 b hb with h1 | h1
  ·exact s3 b h1
  ·exact ⟨by omega,by omega,by omega,fun hd=>by have:=(B.dlo b hd).2.1; omega⟩
 refine ⟨A14,K14,h17,y1,h18,q1,⟨⟨by have:=B.nw.next; omega,fun b hb=>(same b (by have:=B.nw.next; omega) (by omega) (by omega) (fun ho=>by have:=(s3 b ho).1; omega)).trans (B.nw.get b hb)⟩,?_,?_,⟨A14,K14,?_,?_,lo14⟩,fun b hb=>by have:=B.dlo b hb; omega,by omega,by omega⟩,by omega,fun b hb h1 h2 hd=>same b hb h1 h2 (hd.elim (fun hlt ho=>by have:=(s3 _ ho).1; omega) nA)⟩
 ·exact B.gates.keep (fun b hb hlt=>same b hlt (B.dlo b hb).2.2.1 (B.dlo b hb).2.2.2 (nA hb)) (by omega)
 ·exact x2.keep ((q4 _ p3).trans ((y3.get _ (by omega) (fun ho=>(s3 _ ho).2.1 rfl)).trans ((k15.trans k16).get _ (by omega))))
 ·rw [List.length_append]; exact q2
 ·rw [List.length_append]
  exact y2.keep (fun b hb _=>q4 b (lo14 b hb).2.2.1) (by omega)
end
end Eva
end
section
open Go Go.RowKit
namespace Eva
def nilS:Value:=.slice none 0 0
structure KC (h0:AH) (LB lb n i:Nat) (kl:Nat→List Stp) (h:AH) (vals:List Value) (D:Nat→Prop) (A:Option Addr) (m K:Nat) (cur:List Stp):Prop where
 nw:Nw h0 h
 blk:Bk h LB (vals ++ .slice A m K :: List.replicate (n - (i+1)) nilS) 282
 lbx:Bk h lb [.slice (some ⟨LB,0,none⟩) n (cx n)] 281
 vl:vals.length=i∧i<n
 old:∀ j v,vals[j]? = some v→∃ A n K,v = .slice A n K∧Sa cTri D h A n K (kl j)
 own:OwnP cTri h (ownB A) 284 A m K cur
 dlo:∀ b,D b→h0.next≤b∧b<h.next∧b≠LB∧b≠lb∧¬ ownB A b
 alo:∀ b,ownB A b→h0.next≤b∧b≠LB∧b≠lb
 pos:h0.next≤LB∧h0.next≤lb∧LB≠lb∧LB<h.next∧lb<h.next
section
variable {h h' h0:AH} {LB lb n i m K:Nat} {kl:Nat→List Stp} {vals:List Value} {D:Nat→Prop} {A:Option Addr} {cur:List Stp}
theorem KC.next (C:KC h0 LB lb n i kl h vals D A m K cur) (a:Nw h h'):KC h0 LB lb n i kl h' vals D A m K cur:=by
 obtain ⟨p1,p2,p3,p4,p5⟩:=C.pos
 have z:=a.next
 refine ⟨C.nw.trans a,a.bk p4 C.blk,a.bk p5 C.lbx,C.vl,fun j v hj=>?_,C.own.nw a,fun b hb=>by have:=C.dlo b hb; exact ⟨this.1,by omega,this.2.2⟩,C.alo,by omega⟩
 obtain ⟨A',n',K',h1,h2⟩:=C.old j v hj
 exact ⟨A',n',K',h1,h2.nw a⟩
theorem KC.cell (C:KC h0 LB lb n i kl h vals D A m K cur):ldC h LB (0+i)=some (.slice A m K):=by
 rw [ldC_bk C.blk,Nat.zero_add,List.getElem?_append_right (by rw [C.vl.1]; exact Nat.le_refl _),C.vl.1,Nat.sub_self]
 rfl
theorem KC.push (C:KC h0 LB lb n i kl h vals D A m K cur) (hm:m≤2000) (s:Stp):∀ h32,h32=AH.new h (.cells [.int .i64 s.1,.int .i64 s.2.1,.int .i64 s.2.2] 284 false) →
  ∃ A' K' h33,lAppend Tryz.prog h32 (some (.slice 284)) (some (.slice 284)) (.slice A m K) (.slice (some ⟨h.next,0,none⟩) 1 2)=some (.slice A' (m+1) K',h33)∧ldC h33 lb 0=some (.slice (some ⟨LB,0,none⟩) n (cx n)) ∧
   ∃ h34,stC h33 LB (0+i) [.slice A' (m+1) K']=some h34∧KC h0 LB lb n i kl h34 vals D A' (m+1) K' (cur ++ [s]):=by
 intro h32 e32
 obtain ⟨p1,p2,p3,p4,p5⟩:=C.pos
 obtain ⟨A',K',h33,y1,y2,y3,y4,y5⟩:=pushStp C.own hm s e32
 have nLB:¬ ownB A LB:=fun ho=>(C.alo _ ho).2.1 rfl
 have nlb:¬ ownB A lb:=fun ho=>(C.alo _ ho).2.2 rfl
 have b33:=y3.bk p4 nLB C.blk
 have l33:=y3.bk p5 nlb C.lbx
 obtain ⟨h34,q1,q2,q3,q4⟩:=st_one (v:=.slice A' (m+1) K') b33 (o:=0+i) (by simp; have:=C.vl; omega) rfl
 have lo':∀ b,ownB A' b→h0.next≤b∧b≠LB∧b≠lb:=fun b hb=>(y5 b hb).elim (C.alo b) (fun h1=>by have:=C.nw.next; omega)
 have same:∀ b,b<h.next→¬ ownB A b→b≠LB→h34.get b=h.get b:=fun b hb h1 h2=>(q4 b h2).trans (y3.get b hb h1)
 refine ⟨A',K',h33,y1,ldC_of l33 rfl,h34,q1,⟨⟨by have:=C.nw.next; omega,fun b hb=>(same b (by have:=C.nw.next; omega) (fun ho=>by have:=(C.alo b ho).1; omega) (by omega)).trans (C.nw.get b hb)⟩,?_,(q4 _ (Ne.symm p3)).trans l33,C.vl,fun j v hj=>?_,y2.keep (fun b hb _=>q4 b (lo' b hb).2.1) (by omega),fun b hb=>?_,lo',by omega⟩⟩
 ·have e:(vals ++ .slice A m K :: List.replicate (n - (i+1)) nilS).set (0+i) (.slice A' (m+1) K')=vals ++ .slice A' (m+1) K' :: List.replicate (n - (i+1)) nilS:=by
   rw [Nat.zero_add,List.set_append_right _ _ (by rw [C.vl.1]; exact Nat.le_refl _),C.vl.1,Nat.sub_self]
   rfl
  rwa [e] at q2
 ·obtain ⟨A1,n1,K1,h1,h2⟩:=C.old j v hj
  exact ⟨A1,n1,K1,h1,h2.keep (fun b hb hlt=>same b hlt (C.dlo b hb).2.2.2.2 (C.dlo b hb).2.2.1) (by omega)⟩
 ·obtain ⟨d1,d2,d3,d4,d5⟩:=C.dlo b hb
  exact ⟨d1,by omega,d3,d4,fun ho=>(y5 b ho).elim d5 (fun h=>by omega)⟩
end
section
variable {h:AH} {Q:Value→AH→Prop} {Fa F Fo F1 F2 F3:Nat→Prop} {g o:Nat} {N:NetD} {p:List (List Int)} {k c:Nat} {A1 A2 A3:Option Addr} {n1 n2 n3 K1 K2 K3:Nat} {costs:List Int}
theorem aByKids (G:GrA h Fa F g N) (O:OvA h Fo o N p) (hk:2≤k) (hkl:k≤p.length) (hc:c<most p k) (s1:Sa cI F1 h A1 n1 K1 (ints (N.ins p k c))) (s2:Sa cI F2 h A2 n2 K2 (ints (N.outs p k c))) (s3:Sa cI F3 h A3 n3 K3 costs) (hlen:costs.length=N.size p) (hsz:N.size p≤1000000) (hcb:∀ x∈costs,0≤x)
  (hK:∀ (ks:List Nat) (A':Option Addr) (K':Nat) (fb:Array Value) (h':AH),KidsIn N p k c ks→NextOk h' 161 fb (N.LK p k ks ks.length).length (N.kSteps p k c ks costs)→Sa cI (fun b=>h.next≤b) h' A' n1 K' (ints ((N.ins p k c).map fun a=>(N.LK p k ks ks.length).idxOf a))→Nw h h' →
   Q (.agg #[.int .i64 ((N.LK p k ks ks.length).length:Int),.slice A' n1 K',.func (.func 161) #[] fb]) h') :
  WC Tryz.prog 95 [.pointer (some ⟨g,0,none⟩),.pointer (some ⟨o,0,none⟩),.int .i64 k,.int .i64 c,.agg #[.slice A1 n1 K1,.slice A2 n2 K2],.slice A3 n3 K3] h Q:=by
 have hna:=G.few.2
 have hl1:(N.ins p k c).length=n1:=by simpa [ints] using s1.len
 have hl2:(N.outs p k c).length=n2:=by simpa [ints] using s2.len
 have hn1:n1≤1000:=by rw [← hl1]; exact Nat.le_trans (takeN_len _ _) hna
 have hn2:n2≤1000:=by rw [← hl2]; exact Nat.le_trans (takeN_len _ _) hna
 have hp6:=O.hp.few
 have hnv:=O.hp.nv_
 have wk:IntKind.i64.wrap ((k:Int) - 1)=((k - 1:Nat):Int):=by rw [Int.natCast_sub (by omega)]; exact wr_ok (by omega) (by omega)
 refine w_fill_byKids fun h1 e1 h2 e2 h3 e3 h4 e4 h5 e5=>?_
 obtain ⟨k1,g1,z1⟩:=news e1
 obtain ⟨k2,g2,z2⟩:=news e2
 obtain ⟨k3,g3,z3⟩:=news e3
 obtain ⟨k4,g4,z4⟩:=news e4
 obtain ⟨k5,g5,z5⟩:=news e5
 have k03:=(k1.trans k2).trans k3
 have k35:=k4.trans k5
 have G3:=G.nw k03
 have O3:=O.nw k03
 have cb3:Bk h3 h.next [.slice A1 n1 K1,.slice A2 n2 K2] 202:=(k2.trans k3).bk (by omega) g1
 have xb3:Bk h3 h1.next [.slice A3 n3 K3] 35:=k3.bk (by omega) g2
 have s13:=s1.nw k03
 have s23:=s2.nw k03
 have s33:=s3.nw k03
 refine oKids (O3.nw k35) hk hkl hc fun A4 n4 K4 ks h6 s6 hKs k6=>⟨_,_,_,rfl,?_⟩
 have hn4:ks.length=n4:=by simpa [ints] using s6.len
 subst hn4
 have hksn:ks.length≤N.nv:=by
  have h1:=nodup_len (l:=ks) (N:=most p (k - 1)) (List.Pairwise.imp (fun h=>Nat.ne_of_lt h) hKs.asc) (fun d hd=>hKs.lt O.hp hk hkl hd)
  refine Nat.le_trans h1 ?_
  obtain ⟨row,hr⟩:∃ row,p[k - 1 - 1]? = some row:=⟨_,List.getElem?_eq_getElem (by omega)⟩
  have h2:=most_row hr
  have h3:=mostOf_le (row:=row) (n:=(N.nv:Int)) (by omega) (fun x hx=>(O.hp.inr _ (List.mem_of_getElem? hr) x hx).2)
  omega
 have hnv1:=G.few.1
 have z6:=k6.next
 have LKl:∀ {i},i≤ks.length→(N.LK p k ks i).length≤1000:=fun hi=>Nat.le_trans (LK_len hKs.asc hi) hna
 refine ⟨fun m A5 n5 K5 x h7=>∃ (i:Nat) (D:Nat→Prop),x=i∧n5=i∧i≤ks.length∧m=ks.length - i∧KB h3 h6.next h3.next h4.next D A5 i K5 (gatesK N p k ks i) h7 (N.LK p k ks i) (N.spK p k ks i)∧Sa cI (fun b=>h5.next≤b∧b<h6.next) h7 A4 ks.length K4 (ints ks),ks.length,⟨0,fun _=>False,rfl,rfl,Nat.zero_le _,rfl,⟨k35.trans k6,OwnP.nil _ _ _ _,?_,⟨none,0,(k6.bk (by omega) g5),OwnP.nil _ _ _ _,fun b hb=>hb.elim⟩,fun b hb=>hb.elim,by omega,by omega⟩,s6.mono fun b hb hlt=>⟨hb,hlt⟩⟩,?_⟩
 ·have e0:pmF (N.LK p k ks 0)=fun _=>none:=by funext x; simp [pmF,NetD.LK]
  rw [e0]
  exact (MapF.new g4).keep ((k5.trans k6).get _ (by omega))
 rintro m A5 n5 K5 x h7 ⟨i,D,rfl,rfl,hi,rfl,B7,sK⟩
 refine ⟨fun hlt=>?_,fun hge=>?_⟩
 ·have hik:n5<ks.length:=by omega
  obtain ⟨d,hd⟩:∃ d,ks[n5]? = some d:=⟨_,List.getElem?_eq_getElem hik⟩
  have hdD:(ks[n5]?).getD 0=d:=by rw [hd]; rfl
  have hdm:=List.mem_of_getElem? hd
  have hdl:=hKs.lt O.hp hk hkl hdm
  obtain ⟨b1,o1,x4,hA4,-,-,hx4,q4⟩:=sK.int (k:=n5) hik
  have hxd:x4=(d:Int):=by simp [ints,hd] at hx4; exact hx4.symm
  subst hxd
  refine ⟨n5,rfl,b1,o1,hA4,hik,_,q4,_,wk,oGate (O3.nw B7.nw) (by omega) (by omega) hdl fun A6 K6 A7 K7 h8 sA sB k8=>⟨_,_,_,_,_,_,rfl,fun h9 e9=>?_⟩⟩
  obtain ⟨ni,hni⟩:∃ ni,(N.ins p (k - 1) d).length=ni:=⟨_,rfl⟩
  obtain ⟨no,hno⟩:∃ no,(N.outs p (k - 1) d).length=no:=⟨_,rfl⟩
  rw [hni] at sA ⊢
  rw [hno] at sB ⊢
  have hni2:ni≤1000:=by rw [← hni]; exact Nat.le_trans (takeN_len _ _) hna
  obtain ⟨h10,s10,k10,g10,z10⟩:=box_st (vs:=[.slice A6 ni K6,.slice A7 no K7]) e9 rfl (flat2 rfl rfl)
  refine ⟨h10,s10,_,_,_,_,_,_,ldN_bk g10 (by simp),fun h11 e11=>?_⟩
  obtain ⟨k11,g11,z11⟩:=news e11
  have z8:=k8.next
  have B11:=B7.next ((k8.trans k10).trans k11)
  have hownD:∀ b,ownB A5 b→D b:=fun b hb=>(B7.gates.lt hb).1
  have sA11:=((sA.nw k10).nw k11)
  have sB11:=((sB.nw k10).nw k11)
  have sAF:Sa cI (fun b=>h7.next≤b∧b<h11.next) h11 A6 ni K6 (ints (N.ins p (k - 1) d)):=sA11.mono fun b hb hlt=>⟨hb,hlt⟩
  have sBF:Sa cI (fun b=>h7.next≤b∧b<h11.next) h11 A7 no K7 (ints (N.outs p (k - 1) d)):=sB11.mono fun b hb hlt=>⟨hb,hlt⟩
  have hz:Sz Rc.gate (fun b=>h7.next≤b∧b<h11.next) h11 (some ⟨h10.next,0,none⟩) 1 2 [(ints (N.ins p (k - 1) d),ints (N.outs p (k - 1) d))]:=
   Sz.one g11 ⟨by omega,by omega⟩ (by omega) rfl ⟨A6,ni,K6,A7,no,K7,rfl,sAF,sBF⟩
  obtain ⟨A10,K10,h12,y1,y2,y3,y4⟩:=app_rows (r:=Rc.gate) (bytes:=48) tyG B11.gates hz (fun b hb ho=>by have:=(B7.dlo b (hownD b ho)).2.1; omega) (by omega) (by omega)
  have z12:=y3.next
  have nO:∀ {b},h7.next≤b→¬ ownB A5 b:=fun hb ho=>by have:=(B7.dlo _ (hownD _ ho)).2.1; omega
  refine ⟨A10,n5+1,K10,h12,y1,_,_,_,ldC_of (y3.bk (by omega) (nO (by omega)) (k11.bk (by omega) g10)) rfl,?_⟩
  obtain ⟨A12,K12,t1,t2,t3⟩:=B11.spt
  obtain ⟨p1,p2,p3,p4,p5⟩:=B11.pos
  have B12:KB h3 h6.next h3.next h4.next (fun b=>(D b∨(h7.next≤b∧b<h11.next)∨b=h11.next)∧b<h12.next) A10 (n5+1) K10 (gatesK N p k ks (n5+1)) h12 (N.LK p k ks n5) (N.spK p k ks n5):=by
   have lo7:=B7.hlo
   refine ⟨⟨by have:=B11.nw.next; omega,fun b hb=>(y3.get b (by have:=B11.nw.next; omega) (fun ho=>by have:=(B7.dlo b (hownD b ho)).1; omega)).trans (B11.nw.get b hb)⟩,?_,B11.map_.keep (y3.get _ p4 (fun ho=>(B7.dlo _ (hownD _ ho)).2.2.1 rfl)),⟨A12,K12,y3.bk p5 (fun ho=>(B7.dlo _ (hownD _ ho)).2.2.2 rfl) t1,t2.keep (fun b hb hlt=>y3.get b hlt (fun ho=>(t3 b hb).2.2.2 (hownD b ho))) (by omega),fun b hb=>?_⟩,fun b hb=>?_,by omega,by omega⟩
   ·rw [gatesK_succ,hdD]
    exact y2.mono fun b hb hlt=>⟨hb,hlt⟩
   ·have hb7:b<h7.next:=by
     obtain ⟨A12',K12',t1',t2',t3'⟩:=B7.spt
     have:ldC h11 h4.next 0=some (.slice A12' (N.LK p k ks n5).length K12'):=ldC_of (((k8.trans k10).trans k11).bk (by have:=B7.pos; omega) t1') rfl
     rw [ldC_of t1 rfl] at this
     injection this with this
     injection this with e1 e2 e3
     subst e1
     exact t2'.own hb
    refine ⟨(t3 b hb).1,(t3 b hb).2.1,(t3 b hb).2.2.1,fun hd=>?_⟩
    rcases hd.1 with h9 | h9 | h9
    ·exact (t3 b hb).2.2.2 h9
    ·omega
    ·omega
   ·have hpos:=B7.pos
    rcases hb.1 with h9 | h9 | h9
    ·have:=B7.dlo b h9; omega
    ·omega
    ·omega
  have sA12:Sa cI (fun b=>h7.next≤b∧b<h11.next) h12 A6 ni K6 (ints (N.ins p (k - 1) d)):=sAF.off y3 fun b hb=>nO hb.1
  have sK12:Sa cI (fun b=>h5.next≤b∧b<h6.next) h12 A4 ks.length K4 (ints ks):=((sK.nw (k8.trans k10)).nw k11).off y3 fun b hb ho=>by have:=(B7.dlo b (hownD b ho)).1; omega
  have hLn5:=LKl hi
  refine ⟨fun m x h13=>∃ j:Nat,x=j∧j≤ni∧m=ni - j∧KB h3 h6.next h3.next h4.next (fun b=>(D b∨(h7.next≤b∧b<h11.next)∨b=h11.next)∧b<h12.next) A10 (n5+1) K10 (gatesK N p k ks (n5+1)) h13 (N.LK p k ks n5 ++ (N.ins p (k - 1) d).take j) (N.spK p k ks n5 ++ (List.range j).map fun j=>(N.firstK p k d j,(n5:Int)))∧Sa cI (fun b=>h7.next≤b∧b<h11.next) h13 A6 ni K6 (ints (N.ins p (k - 1) d))∧Sa cI (fun b=>h5.next≤b∧b<h6.next) h13 A4 ks.length K4 (ints ks),ni,⟨0,rfl,Nat.zero_le _,rfl,by simpa using B12,sA12,sK12⟩,?_⟩
  rintro m x h13 ⟨j,rfl,hj,rfl,B13,sA13,sK13⟩
  refine ⟨fun hlt=>?_,fun hge=>?_⟩
  ·have hjn:j<ni:=by omega
   obtain ⟨b2,o2,x7,hA6,-,-,hx7,r0⟩:=sA13.int (k:=j) hjn
   obtain ⟨a,ha⟩:∃ a,(N.ins p (k - 1) d)[j]? = some a:=⟨_,List.getElem?_eq_getElem (by omega)⟩
   have hxa:x7=(a:Int):=by simp [ints,ha] at hx7; exact hx7.symm
   subst hxa
   have hfr:a ∉ N.LK p k ks n5 ++ (N.ins p (k - 1) d).take j:=by
    have:=fresh_LK (N:=N) (p:=p) (k:=k) (ks:=ks) hKs.asc (n:=n5) (j:=j) (a:=a) hik (by rw [hdD]; exact ha)
    rwa [hdD] at this
   have hLl:(N.LK p k ks n5 ++ (N.ins p (k - 1) d).take j).length≤2000:=by rw [List.length_append,List.length_take]; omega
   obtain ⟨A12',K12',u1,u2,h14,u3,u4,u5,u6,u7⟩:=B13.push hfr hLl
   obtain ⟨P1,P2,P3,P4,P5⟩:=B13.pos
   have nw14:Nw h3 h14:=⟨by have:=B13.nw.next; omega,fun b hb=>(u6 b (by omega)).trans (B13.nw.get b hb)⟩
   have w1:IntKind.i64.wrap ((j:Int)+1)=((j+1:Nat):Int):=by rw [Int.natCast_succ]; exact wr_ok (by omega) (by omega)
   refine ⟨j,rfl,b2,o2,hA6,hjn,_,r0,_,_,_,u1,h14,u3,_,_,_,u4,_,wk,oAt0 (O3.nw nw14) hk hkl hdl (by omega) fun h15 k15=>⟨_,rfl,?_⟩⟩
   obtain ⟨v1,v2⟩:=u7 h15 (N.firstK p k d j) (n5:Int) k15
   refine ⟨v1,u2,fun h16 e16=>?_⟩
   obtain ⟨A14,K14,h17,w2,h18,w3,B18,w4,w5⟩:=v2 h16 e16
   refine ⟨A14,_,K14,h17,w2,h18,w3,_,w1,ni - (j+1),by omega,j+1,by omega,by omega,rfl,?_,sA13.keep (fun b hb hlt=>w5 b hlt (by have:=B7.pos; omega) (by have:=B7.pos; omega) (.inr ⟨.inr (.inl hb),by omega⟩)) w4,sK13.keep (fun b hb hlt=>w5 b hlt (by omega) (by omega) (.inl (by omega))) w4⟩
   have e1:N.LK p k ks n5 ++ (N.ins p (k - 1) d).take (j+1)=N.LK p k ks n5 ++ (N.ins p (k - 1) d).take j ++ [a]:=by rw [List.take_add_one,ha,List.append_assoc]; rfl
   have e2:(N.spK p k ks n5 ++ (List.range (j+1)).map fun j=>(N.firstK p k d j,(n5:Int)))=(N.spK p k ks n5 ++ (List.range j).map fun j=>(N.firstK p k d j,(n5:Int))) ++ [(N.firstK p k d j,(n5:Int))]:=by rw [List.range_succ,List.map_append,List.append_assoc]; rfl
   rw [e1,e2]
   exact B18
  ·obtain rfl:j=ni:=by omega
   have w1:IntKind.i64.wrap ((n5:Int)+1)=((n5+1:Nat):Int):=by rw [Int.natCast_succ]; exact wr_ok (by omega) (by omega)
   refine ⟨_,w1,ks.length - (n5+1),by omega,n5+1,fun b=>(D b∨(h7.next≤b∧b<h11.next)∨b=h11.next)∧b<h12.next,rfl,rfl,by omega,rfl,?_,sK13⟩
   rw [List.take_of_length_le (by omega)] at B13
   have e1:N.LK p k ks (n5+1)=N.LK p k ks n5 ++ N.ins p (k - 1) d:=by rw [NetD.LK,hdD]
   have e2:N.spK p k ks (n5+1)=N.spK p k ks n5 ++ (List.range j).map fun j=>(N.firstK p k d j,(n5:Int)):=by rw [NetD.spK,hdD,hni]
   rw [e1,e2]
   exact B13
 ·obtain rfl:n5=ks.length:=by omega
  obtain ⟨L,hL⟩:∃ L,N.LK p k ks ks.length=L:=⟨_,rfl⟩
  have hLl:L.length≤1000:=by rw [← hL]; exact LKl (Nat.le_refl _)
  obtain ⟨P1,P2,P3,P4,P5⟩:=B7.pos
  have cb7:=B7.nw.bk (by omega) cb3
  have G7:=G3.nw B7.nw
  have s27:=s23.nw B7.nw
  have m7:=B7.map_
  rw [hL] at m7
  have sG7:Sa Rc.gate D h7 A5 ks.length K5 (gatesK N p k ks ks.length):=B7.gates.sa
  refine ⟨by omega,fun h19 e19 h20 e20=>?_⟩
  obtain ⟨k19,g19,z19⟩:=news e19
  rw [rep_one] at g19
  obtain ⟨h21,s21,k21,g21,z21⟩:=box_st (vs:=[.slice (some ⟨h7.next,0,none⟩) ks.length (cx ks.length)]) e20 rfl (by simp [flat])
  refine ⟨h21,s21,fun m x h22=>∃ (i:Nat) (vals:List Value) (D2:Nat→Prop),x=i∧i≤ks.length∧m=ks.length - i∧Nw h7 h22∧Bk h22 h7.next (vals ++ List.replicate (ks.length - i) nilS) 282∧Bk h22 h19.next [.slice (some ⟨h7.next,0,none⟩) ks.length (cx ks.length)] 281∧vals.length=i∧(∀ j v,vals[j]? = some v→∃ A n K,v = .slice A n K∧Sa cTri D2 h22 A n K (N.kList p k c ks j))∧(∀ b,D2 b→h7.next≤b∧b<h22.next∧b≠h7.next∧b≠h19.next)∧h19.next<h22.next,ks.length,⟨0,[],fun _=>False,rfl,Nat.zero_le _,rfl,k19.trans k21,k21.bk (by omega) g19,g21,rfl,by simp,fun b hb=>hb.elim,by omega⟩,?_⟩
  rintro m x h22 ⟨i,vals,D2,rfl,hi,rfl,k22,b22,l22,hvl,hold,hD2,hl22⟩
  refine ⟨fun hlt=>?_,fun hge=>?_⟩
  ·have hik:i<ks.length:=by omega
   obtain ⟨d,hd⟩:∃ d,ks[i]? = some d:=⟨_,List.getElem?_eq_getElem hik⟩
   have hdD:(ks[i]?).getD 0=d:=by rw [hd]; rfl
   have hdm:=List.mem_of_getElem? hd
   have hkl1:N.kList p k c ks i=(N.outs p (k - 1) d).map (N.kStep p k c L):=by unfold NetD.kList; rw [hdD,hL]
   obtain ⟨b3,o3,A15,n15,K15,A16,n16,K16,gx,gy,hA5,-,-,hgx,q1,q2,s15,s16⟩:=(sG7.nw k22).gate (k:=i) hik
   have hgy:gx=ints (N.ins p (k - 1) d)∧gy=ints (N.outs p (k - 1) d):=by
    unfold gatesK at hgx
    rw [List.getElem?_map,List.getElem?_range hik] at hgx
    simp only [Option.map_some,hdD] at hgx
    injection hgx with hgx
    injection hgx with h1 h2
    exact ⟨h1.symm,h2.symm⟩
   obtain ⟨rfl,rfl⟩:=hgy
   have hn16:(N.outs p (k - 1) d).length=n16:=by simpa [ints] using s16.len
   have hn16b:n16≤1000:=by rw [← hn16]; exact Nat.le_trans (takeN_len _ _) hna
   refine ⟨i,rfl,b3,o3,hA5,hik,_,_,_,_,_,_,ldN2 q1 q2,fun h23 e23=>?_⟩
   obtain ⟨h24,s24,k24,g24,z24⟩:=box_st (vs:=[.slice A15 n15 K15,.slice A16 n16 K16]) e23 rfl (flat2 rfl rfl)
   have hz22:=k22.next
   have C24:KC h7 h7.next h19.next ks.length i (N.kList p k c ks) h24 vals D2 none 0 0 []:=by
    refine ⟨k22.trans k24,?_,k24.bk hl22 l22,⟨hvl,hik⟩,fun j v hj=>?_,OwnP.nil _ _ _ _,fun b hb=>?_,fun b hb=>hb.elim,by omega⟩
    ·have:=k24.bk (by omega) b22
     rw [show ks.length - i=(ks.length - (i+1))+1 by omega,List.replicate_succ] at this
     exact this
    ·obtain ⟨A',n',K',h1,h2⟩:=hold j v hj
     exact ⟨A',n',K',h1,h2.nw k24⟩
    ·have:=hD2 b hb
     exact ⟨this.1,by omega,this.2.2.1,this.2.2.2,id⟩
   refine ⟨h24,s24,_,_,_,ldC_of g24 rfl,fun m x h25=>∃ (j:Nat) (A:Option Addr) (mm K:Nat),x=j∧j≤n16∧m=n16 - j∧KC h7 h7.next h19.next ks.length i (N.kList p k c ks) h25 vals D2 A mm K (((N.outs p (k - 1) d).take j).map (N.kStep p k c L))∧mm=j∧Nw h7 h25,n16,⟨0,none,0,0,rfl,Nat.zero_le _,rfl,by simpa using C24,rfl,C24.nw⟩,?_⟩
   rintro m x h25 ⟨j,A,mm,K,rfl,hj,rfl,C25,rfl,k25⟩
   have w1:IntKind.i64.wrap ((mm:Int)+1)=((mm+1:Nat):Int):=by rw [Int.natCast_succ]; exact wr_ok (by omega) (by omega)
   refine ⟨fun hlt=>?_,fun hge=>?_⟩
   ·have hjn:mm<n16:=by omega
    have s16':Sa cI D h25 A16 n16 K16 (ints (N.outs p (k - 1) d)):=by
     obtain ⟨b3',o3',A15',n15',K15',A16',n16',K16',gx',gy',hA5',-,-,hgx',q1',q2',s15',s16'⟩:=(sG7.nw k25).gate (k:=i) hik
     obtain ⟨b7,o7,A157,n157,K157,A167,n167,K167,gx7,gy7,hA57,-,hb7,hgx7,q17,q27,s157,s167⟩:=sG7.gate (k:=i) hik
     have e1:gy7=ints (N.outs p (k - 1) d):=by
      unfold gatesK at hgx7
      rw [List.getElem?_map,List.getElem?_range hik] at hgx7
      simp only [Option.map_some,hdD] at hgx7
      injection hgx7 with hgx7
      injection hgx7 with h1 h2
      exact h2.symm
     subst e1
     rw [hA5] at hA57
     injection hA57 with hA57
     injection hA57 with e2 e3
     subst e2 e3
     have e4:=(k22.ldC hb7 _).trans q27
     rw [q2] at e4
     injection e4 with e4
     injection e4 with e5 e6 e7
     subst e5 e6 e7
     exact s167.nw k25
    obtain ⟨b4,o4,x14,hA16,-,-,hx14,r0⟩:=s16'.int (k:=mm) hjn
    obtain ⟨mv,hmv⟩:∃ mv,(N.outs p (k - 1) d)[mm]? = some mv:=⟨_,List.getElem?_eq_getElem (by omega)⟩
    have hxm:x14=(mv:Int):=by simp [ints,hmv] at hx14; exact hx14.symm
    subst hxm
    have hmvm:=List.mem_of_getElem? hmv
    have hmvn:=(NetD.mem_outs.1 hmvm).1
    have htake:((N.outs p (k - 1) d).take (mm+1)).map (N.kStep p k c L)=((N.outs p (k - 1) d).take mm).map (N.kStep p k c L) ++ [N.kStep p k c L mv]:=by
     rw [List.take_add_one,hmv,List.map_append]; rfl
    refine ⟨mm,rfl,b4,o4,hA16,hjn,_,r0,_,_,_,ldC_of (k25.bk (by omega) cb7) rfl,aPlace mv (s27.nw k25) (takeN_asc _ _) (by omega) ⟨_,rfl,fun h27 e27=>?_⟩⟩
    obtain ⟨h28,s28,k28,g28,z28⟩:=box_st (vs:=[.int .i64 0,.int .i64 (placeI (N.outs p k c) mv),.int .i64 0]) e27 rfl (flat3 rfl rfl rfl)
    have fin:∀ (h31:AH) (s:Stp),Nw h25 h31→s=N.kStep p k c L mv→Bk h31 h25.next [.int .i64 s.1,.int .i64 s.2.1,.int .i64 s.2.2] 284 →
      ∃ (A19:Option Addr) (n19:Nat) (K19:Nat),ldC h31 h19.next 0=some (.slice A19 n19 K19)∧∃ (A20:Option Addr) (n20:Nat) (K20:Nat),ldC h31 h19.next 0=some (.slice A20 n20 K20)∧∃ (b_5 o_5:Nat),A20=some ⟨b_5,o_5,none⟩∧i<n20∧∃ (A21:Option Addr) (n21:Nat) (K21:Nat),ldC h31 b_5 (o_5+i)=some (.slice A21 n21 K21)∧∃ (x19:Int) (x20:Int) (x21:Int),ldN h31 h25.next 0 3=some [.int .i64 x19,.int .i64 x20,.int .i64 x21] ∧
      ∀ h32:AH,h32=AH.new h31 (.cells [.int .i64 x19,.int .i64 x20,.int .i64 x21] 284 false)→∃ (A22:Option Addr) (n22:Nat) (K22:Nat) (h33:AH),lAppend Tryz.prog h32 (some (.slice 284)) (some (.slice 284)) (.slice A21 n21 K21) (.slice (some ⟨h31.next,0,none⟩) 1 2)=some (.slice A22 n22 K22,h33)∧ldC h33 h19.next 0=some (.slice A19 n19 K19)∧EqOk (.slice A19 n19 K19)∧∃ (b_6 o_6:Nat),A19=some ⟨b_6,o_6,none⟩∧i<n19∧∃ h34:AH,stC h33 b_6 (o_6+i) [.slice A22 n22 K22]=some h34 ∧
      ∃ x22:Int,IntKind.i64.wrap ((mm:Int)+1)=x22∧∃ m':Nat,m' < n16 - mm∧∃ (j:Nat) (A:Option Addr) (mm K:Nat),x22=j∧j≤n16∧m' = n16 - j∧KC h7 h7.next h19.next ks.length i (N.kList p k c ks) h34 vals D2 A mm K (((N.outs p (k - 1) d).take j).map (N.kStep p k c L))∧mm=j∧Nw h7 h34:=by
     intro h31 s k31 hs gs
     have C31:=C25.next k31
     obtain ⟨Q1,Q2,Q3,Q4,Q5⟩:=C31.pos
     refine ⟨_,_,_,ldC_of C31.lbx rfl,_,_,_,ldC_of C31.lbx rfl,_,_,rfl,hik,_,_,_,C31.cell,_,_,_,ldN_bk gs (by simp),fun h32 e32=>?_⟩
     obtain ⟨A',K',h33,y1,y2,h34,y3,C34⟩:=C31.push (by omega) s h32 e32
     refine ⟨A',mm+1,K',h33,y1,y2,rfl,_,_,rfl,hik,h34,y3,_,w1,n16 - (mm+1),by omega,mm+1,A',mm+1,K',rfl,by omega,rfl,?_,rfl,C34.nw⟩
     rw [htake,← hs]
     exact C34
    refine ⟨h28,s28,_,ldC_of g28 rfl,fun hneg=>?_,fun hpos=>?_⟩
    ·have hout:mv ∉ N.outs p k c:=fun hm=>by have:=placeI_nn.2 hm; omega
     have hpl:placeI (N.outs p k c) mv = -1:=by unfold placeI; rw [if_neg hout]
     have hmL:mv∈L:=by rw [← hL]; exact kid_next hKs O.ok O.hp hk hkl hdm hmvm hout
     have hst:N.kStep p k c L mv=(((L.idxOf mv:Nat):Int),-1,N.w mv):=by unfold NetD.kStep; rw [if_neg hout,if_pos hmL]
     have wb:=NetD.w_bd G.ok mv
     rw [hpl] at g28
     refine ⟨_,_,mapLook (m7.keep ((k25.trans k28).get _ (by omega))) mv,fun _=>?_,fun hf=>absurd hmL (of_decide_eq_false hf)⟩
     rw [if_pos hmL]
     refine aWeight ((G7.nw k25).nw k28) hmvn ⟨_,rfl,?_⟩
     obtain ⟨h30,s30,b30,z30,q30⟩:=st_one (v:=.int .i64 ((L.idxOf mv:Nat):Int)) g28 (o:=0) (by simp) rfl
     obtain ⟨h31,s31,b31,z31,q31⟩:=st_one (v:=.int .i64 (N.w mv)) b30 (o:=2) (by simp) rfl
     have k31:Nw h25 h31:=⟨by omega,fun b hb=>(q31 b (by omega)).trans ((q30 b (by omega)).trans (k28.get b hb))⟩
     exact ⟨h30,s30,h31,s31,fin h31 (((L.idxOf mv:Nat):Int),-1,N.w mv) k31 hst.symm b31⟩
    ·have hout:mv∈N.outs p k c:=placeI_nn.1 (by omega)
     have hpl:placeI (N.outs p k c) mv=(((N.outs p k c).idxOf mv:Nat):Int):=by unfold placeI; rw [if_pos hout]
     have hst:N.kStep p k c L mv=(0,(((N.outs p k c).idxOf mv:Nat):Int),0):=by unfold NetD.kStep; rw [if_pos hout]
     rw [hpl] at g28
     exact fin h28 (0,(((N.outs p k c).idxOf mv:Nat):Int),0) k28 hst.symm g28
   ·obtain rfl:mm=n16:=by omega
    have hC:=C25.own
    rw [List.take_of_length_le (by omega)] at hC
    obtain ⟨Q1,Q2,Q3,Q4,Q5⟩:=C25.pos
    have wi:IntKind.i64.wrap ((i:Int)+1)=((i+1:Nat):Int):=by rw [Int.natCast_succ]; exact wr_ok (by omega) (by omega)
    refine ⟨_,wi,ks.length - (i+1),by omega,i+1,vals ++ [.slice A mm K],fun b=>D2 b∨ownB A b,rfl,by omega,rfl,k25,?_,C25.lbx,by simp [hvl],fun q v hq=>?_,fun b hb=>?_,Q5⟩
    ·have:=C25.blk
     rwa [List.append_cons] at this
    ·rw [List.getElem?_append] at hq
     split at hq
     ·obtain ⟨A',n',K',h1,h2⟩:=C25.old q v hq
      exact ⟨A',n',K',h1,h2.mono fun b hb _=>.inl hb⟩
     ·rename_i hge2
      have hq0:q=vals.length:=by
       have:=(List.getElem?_eq_some_iff.1 hq).1
       simp at this
       omega
      subst hq0
      simp at hq
      subst hq
      refine ⟨A,mm,K,rfl,?_⟩
      rw [hvl,hkl1]
      exact hC.sa.mono fun b hb _=>.inr hb
    ·rcases hb with hb | hb
     ·have:=C25.dlo b hb; exact ⟨this.1,this.2.1,this.2.2.1,this.2.2.2.1⟩
     ·have:=C25.alo b hb; exact ⟨this.1,hC.own hb,this.2.1,this.2.2⟩
  ·obtain rfl:i=ks.length:=by omega
   rw [Nat.sub_self,List.replicate_zero,List.append_nil] at b22
   obtain ⟨A12,K12,t1,t2,t3⟩:=B7.spt
   rw [hL] at t1 t2
   have z22:=k22.next
   refine ⟨_,_,_,ldC_of (k22.bk P5 t1) rfl,fun h45 e45=>?_⟩
   obtain ⟨h46,s46,k46,g46,z46⟩:=box_st (vs:=[.int .i64 L.length,.slice none 0 0,.nilFunc]) e45 rfl (flat3 rfl rfl rfl)
   have k746:=k22.trans k46
   have m46:=m7.keep (k746.get _ P4)
   refine ⟨h46,s46,_,_,_,ldC_of (k746.bk (by omega) cb7) rfl,fun m x h47=>∃ (q:Nat) (A17:Option Addr) (K17:Nat),x=q∧q≤n1∧m=n1 - q∧Bk h47 h22.next [.int .i64 L.length,.slice A17 q K17,.nilFunc] 206∧OwnP cI h47 (ownB A17) 3 A17 q K17 (ints (((N.ins p k c).take q).map fun a=>L.idxOf a))∧(∀ b,ownB A17 b→h46.next≤b)∧h46.next≤h47.next∧(∀ b,b<h46.next→b≠h22.next→h47.get b=h46.get b),n1,⟨0,none,0,rfl,Nat.zero_le _,rfl,g46,OwnP.nil _ _ _ _,fun b hb=>hb.elim,Nat.le_refl _,fun _ _ _=>rfl⟩,?_⟩
   rintro m x h47 ⟨q,A17,K17,rfl,hq,rfl,b47,o47,lo47,hz47,q47⟩
   refine ⟨fun hlt=>?_,fun hge=>?_⟩
   ·have hqn:q<n1:=by omega
    have s1':Sa cI F1 h3 A1 n1 K1 (ints (N.ins p k c)):=s13
    obtain ⟨b5,o5,x34,hA1,-,hb5,hx34,r5⟩:=s13.int (k:=q) hqn
    obtain ⟨e,he⟩:∃ e,(N.ins p k c)[q]? = some e:=⟨_,List.getElem?_eq_getElem (by omega)⟩
    have hxe:x34=(e:Int):=by simp [ints,he] at hx34; exact hx34.symm
    subst hxe
    have heL:e∈L:=by rw [← hL]; exact (hKs.in_kid O.ok O.hp hk hkl).2 (ins_nest O.ok O.hp hk hkl (List.mem_of_getElem? he))
    have same3:∀ b,b<h3.next→h47.get b=h3.get b:=fun b hb=>(q47 b (by omega) (by omega)).trans ((k746.get b (by omega)).trans (B7.nw.get b hb))
    have m47:=m46.keep (q47 _ (by omega) (by omega))
    have hlk:=mapLook1 m47 e
    rw [if_pos heL] at hlk
    refine ⟨q,rfl,b5,o5,hA1,hqn,_,(ldC_congr (same3 b5 hb5) _).trans r5,_,_,_,ldC_of b47 rfl,_,hlk,fun h48 e48=>?_⟩
    obtain ⟨k48,g48,z48⟩:=news e48
    have hz:Sz cI (fun z=>z=h47.next) h48 (some ⟨h47.next,0,none⟩) 1 2 [((L.idxOf e:Nat):Int)]:=Sz.one g48 rfl (by omega) rfl rfl
    obtain ⟨A18,K18,h49,y1,y2,y3,y4⟩:=app_row (free_int _) (r:=cI) tyI8 (o47.nw k48) hz (by omega) (by omega)
    have z49:=y3.next
    have b49:=y3.bk (b:=h22.next) (by omega) (fun ho=>by have:=lo47 _ ho; omega) (k48.bk (by omega) b47)
    obtain ⟨h50,s50,b50,z50,o50⟩:=st_one (v:=.slice A18 (q+1) K18) b49 (o:=1) (by simp) rfl
    have lo18:∀ z,ownB A18 z→h46.next≤z:=fun z hz=>(y4 z hz).elim (lo47 z) (fun h=>by omega)
    refine ⟨A18,q+1,K18,h49,y1,h50,s50,_,wr_ok (by omega) (by omega),n1 - (q+1),by omega,q+1,A18,K18,by omega,by omega,rfl,b50,?_,lo18,by omega,fun z hz hne=>(o50 z hne).trans ((y3.get z (by omega) (fun ho=>by have:=lo47 _ ho; omega)).trans ((k48.get z (by omega)).trans (q47 z hz hne)))⟩
    have:ints (((N.ins p k c).take (q+1)).map fun a=>L.idxOf a)=ints (((N.ins p k c).take q).map fun a=>L.idxOf a) ++ [((L.idxOf e:Nat):Int)]:=by
     rw [List.take_add_one,he]; simp [ints]
    rw [this]
    exact y2.keep (fun z hz _=>o50 z (by have:=lo18 z hz; omega)) (by omega)
   ·obtain rfl:q=n1:=by omega
    rw [List.take_of_length_le (by omega)] at o47
    obtain ⟨h51,s51,b51,z51,o51⟩:=st_one (v:=.func (.func 161) #[] #[.pointer (some ⟨h4.next,0,none⟩),.pointer (some ⟨h19.next,0,none⟩),.pointer (some ⟨h1.next,0,none⟩)]) b47 (o:=2) (by simp) rfl
    have f51:Bk h51 h2.next [.int .i64 0,.slice none 0 0,.nilFunc] 206:=(o51 _ (by omega)).trans ((q47 _ (by omega) (by omega)).trans (k746.bk (by omega) (B7.nw.bk (by omega) g3)))
    obtain ⟨h52,s52,b52,z52,o52⟩:=st_all (vs:=[.int .i64 L.length,.slice A17 q K17,.func (.func 161) #[] #[.pointer (some ⟨h4.next,0,none⟩),.pointer (some ⟨h19.next,0,none⟩),.pointer (some ⟨h1.next,0,none⟩)]]) f51 rfl (flat3 rfl rfl rfl)
    have same:∀ z,z<h46.next→z≠h22.next→z≠h2.next→h52.get z=h46.get z:=fun z hz h1 h2=>(o52 z h2).trans ((o51 z h1).trans (q47 z hz h1))
    have same7:∀ z,z<h7.next→z≠h2.next→h52.get z=h7.get z:=fun z hz h2=>(same z (by omega) (by omega) h2).trans (k746.get z hz)
    have same22:∀ z,z<h22.next→z≠h2.next→h52.get z=h22.get z:=fun z hz h2=>(same z (by omega) (by omega) h2).trans (k46.get z hz)
    have same3:∀ z,z<h3.next→z≠h2.next→h52.get z=h3.get z:=fun z hz h2=>(same7 z (by omega) h2).trans (B7.nw.get z hz)
    refine ⟨h51,s51,_,_,_,_,_,_,ldN_bk b51 (by simp),h52,s52,_,_,_,_,_,_,ldN_bk b52 (by simp),?_⟩
    have hnw:Nw h h52:=⟨by omega,fun z hz=>(same3 z (by omega) (by omega)).trans (k03.get z hz)⟩
    have hA17:Sa cI (fun b=>h.next≤b) h52 A17 q K17 (ints ((N.ins p k c).map fun a=>L.idxOf a)):=((o47.keep (fun z hz _=>(o52 z (by have:=lo47 z hz; omega)).trans (o51 z (by have:=lo47 z hz; omega))) (by omega)).sa).mono fun z hz _=>by have:=lo47 z hz; omega
    have lohi:=B7.hlo
    have hspb:ldC h52 h4.next 0=some (.slice A12 L.length K12):=ldC_of ((same7 _ P5 (by omega)).trans t1) rfl
    have hsps:Sa cPr (ownB A12) h52 A12 L.length K12 (N.spK p k ks ks.length):=t2.sa.keep (fun z hz hlt=>same7 z hlt (by have:=(t3 z hz).1; omega)) (by omega)
    have hlb:ldC h52 h19.next 0=some (.slice (some ⟨h7.next,0,none⟩) ks.length (cx ks.length)):=ldC_of ((same22 _ hl22 (by omega)).trans l22) rfl
    have hvb:Bk h52 h7.next vals 282:=(same22 _ (by omega) (by omega)).trans b22
    have hls:Sa (Rc.slice cTri) (fun b=>D2 b∨b=h7.next) h52 (some ⟨h7.next,0,none⟩) ks.length (cx ks.length) ((List.range ks.length).map (N.kList p k c ks)):=
     Sa.of_bk hvb (by simp) (.inr rfl) (by omega) fun j r hj=>by
      rw [List.getElem?_map] at hj
      by_cases hjl:j<ks.length
      ·rw [List.getElem?_range hjl] at hj
       simp only [Option.map_some,Option.some.injEq] at hj
       subst hj
       obtain ⟨v,hv⟩:∃ v,vals[j]? = some v:=⟨_,List.getElem?_eq_getElem (by omega)⟩
       obtain ⟨A',n',K',rfl,h2⟩:=hold j v hv
       refine ⟨A',n',K',?_,(h2.keep (fun z hz hlt=>same22 z hlt (by have:=(hD2 z hz).1; omega)) (by omega)).mono fun b hb _=>.inl hb⟩
       show (vals.drop (j * 1)).take 1=_
       rw [Nat.mul_one]
       exact take_one' hv
      ·rw [List.getElem?_eq_none (by simpa using hjl)] at hj
       cases hj
    have hcb':ldC h52 h1.next 0=some (.slice A3 n3 K3):=ldC_of ((same3 _ (by omega) (by omega)).trans xb3) rfl
    have hcs:Sa cI (fun b=>F3 b∧b<h.next) h52 A3 n3 K3 costs:=((s3.mono (G:=fun b=>F3 b∧b<h.next) fun b hb hlt=>⟨hb,hlt⟩).nw hnw)
    have hn3:=s3.len
    have hx:=nextKids (h0:=h52) ⟨by omega,by omega,by omega⟩ hspb hsps hlb hls hcb' hcs (by omega) (fun x hx=>?_) hcb (fun r hr s hs=>?_)
    ·have hfun:(fun q=>match (N.spK p k ks ks.length)[q]? with | some x=>toldK costs x.1.toNat ((((List.range ks.length).map (N.kList p k c ks))[x.2.toNat]?).getD []) | none=>[])=N.kSteps p k c ks costs:=by
      funext q'
      unfold NetD.kSteps
      cases hq':(N.spK p k ks ks.length)[q']? with
      | none=>rfl
      | some x=>
       obtain ⟨a,ha⟩:∃ a,(N.LK p k ks ks.length)[q']? = some a:=⟨_,List.getElem?_eq_getElem (by rw [← spK_len]; exact (List.getElem?_eq_some_iff.1 hq').1)⟩
       obtain ⟨i',j',d',h1',h2',h3',h4'⟩:=at_LK ks.length (Nat.le_refl _) ha
       rw [hq'] at h4'
       injection h4' with h4'
       subst h4'
       simp [h1']
     have hx2:=(congrArg (fun f=>NextOk h52 161 #[.pointer (some ⟨h4.next,0,none⟩),.pointer (some ⟨h19.next,0,none⟩),.pointer (some ⟨h1.next,0,none⟩)] L.length f) hfun).mp hx
     have hKK:=hK ks A17 K17 _ h52 hKs (by rw [hL]; exact hx2) (by rw [hL]; exact hA17) hnw
     rw [hL] at hKK
     exact hKK
    ·obtain ⟨q',hq'⟩:=List.getElem?_of_mem hx
     obtain ⟨a,ha⟩:∃ a,(N.LK p k ks ks.length)[q']? = some a:=⟨_,List.getElem?_eq_getElem (by rw [← spK_len]; exact (List.getElem?_eq_some_iff.1 hq').1)⟩
     obtain ⟨i',j',d',h1',h2',h3',h4'⟩:=at_LK ks.length (Nat.le_refl _) ha
     rw [hq'] at h4'
     injection h4' with h4'
     subst h4'
     have hd'm:=List.mem_of_getElem? h2'
     have hd'l:=hKs.lt O.hp hk hkl hd'm
     have hse:=NetD.start_end (N:=N) (p:=p) (k:=k - 1) (by omega) (by omega) hd'l
     have hj':=(List.getElem?_eq_some_iff.1 h3').1
     have hkl':(N.kList p k c ks i').length=(N.outs p (k - 1) d').length:=by unfold NetD.kList; rw [h2']; simp
     refine ⟨i',N.kList p k c ks i',rfl,by simp [h1'],by rw [hkl']; exact Nat.le_trans (takeN_len _ _) (by omega),?_⟩
     by_cases he:N.outs p (k - 1) d' = []
     ·left
      unfold NetD.kList
      rw [h2']
      simp [he]
     ·right
      unfold NetD.firstK
      rw [if_neg he]
      simp only [Int.toNat_natCast]
      refine ⟨Int.natCast_nonneg _,?_⟩
      rw [hkl']
      unfold NetD.sz at hse
      have h5:(j' + 1) * (N.outs p (k - 1) d').length≤(N.ins p (k - 1) d').length * (N.outs p (k - 1) d').length:=Nat.mul_le_mul_right _ hj'
      rw [Nat.succ_mul] at h5
      omega
    ·obtain ⟨i',hi',rfl⟩:=List.mem_map.1 hr
     obtain ⟨mv,hmv,rfl⟩:=List.mem_map.1 hs
     have wb:=NetD.w_bd G.ok mv
     unfold NetD.kStep
     split
     ·exact Int.le_refl _
     ·split
      ·exact wb.1
      ·show (0:Int)≤1152921504606846976
       omega
end
end Eva
end
section
open Go Go.RowKit
theorem at_slice {l:List Int} {i outs j:Nat} (hj:j<outs):at_ ((l.drop (i * outs)).take outs) j=at_ l (i * outs+j):=by
 unfold at_
 rw [List.getElem?_take,if_pos hj,List.getElem?_drop]
theorem pl_of {m outs q:Nat} (h:q<m * outs):q / outs<m∧q % outs<outs∧q / outs * outs+q % outs=q:=by
 have h0:0<outs:=by
  rcases Nat.eq_zero_or_pos outs with h1 | h1
  ·rw [h1,Nat.mul_zero] at h; omega
  ·exact h1
 exact ⟨(Nat.div_lt_iff_lt_mul h0).2 h,Nat.mod_lt _ h0,by rw [Nat.mul_comm]; exact Nat.div_add_mod q outs⟩
theorem rows_nn {m outs:Nat} {steps:Nat→List Stp} {starts:List Nat} {l:List Int} (hl:l.length=m * outs) (hs:starts.length=m) (hr:∀ i st,starts[i]? = some st→RowOk outs steps st ((l.drop (i * outs)).take outs)):∀ x∈l,0≤x:=fun x hx=>by
 obtain ⟨q,hq⟩:=List.getElem?_of_mem hx
 have hql:=(List.getElem?_eq_some_iff.1 hq).1
 obtain ⟨h1,h2,h3⟩:=pl_of (hl ▸ hql)
 have h4:=(hr (q / outs) (starts[q / outs]'(by omega)) (List.getElem?_eq_getElem (by omega))).2 (q % outs) h2
 rw [at_slice h2,h3] at h4
 have:at_ l q=x:=by unfold at_; rw [hq]; rfl
 rw [this] at h4
 exact h4.1.1
namespace Eva
section
variable {h:AH} {Q:Value→AH→Prop} {Fa F Fo F3:Nat→Prop} {g o:Nat} {N:NetD} {p:List (List Int)} {k c:Nat} {A3:Option Addr} {n3 K3:Nat} {costs:List Int}
theorem aOne (G:GrA h Fa F g N) (hna3:N.na≤300) (O:OvA h Fo o N p) (hk:1≤k) (hkl:k≤p.length) (hc:c<most p k) (s3:Sa cI F3 h A3 n3 K3 costs) (hlen:costs.length=N.size p) (hsz:N.size p≤1000000) (hcb:∀ x∈costs,0≤x)
  (hbel:2≤k→∀ d,d<most p (k - 1)→CellOk N p costs (k - 1) d)
  (hK:∀ (A:Option Addr) (n K:Nat) (l:List Int) (h':AH),Sa cI (fun b=>h.next≤b) h' A n K l→OneOk N p k c l→(∀ x∈l,0≤x)→Nw h h'→Q (.slice A n K) h') :
  WC Tryz.prog 46 [.pointer (some ⟨g,0,none⟩),.pointer (some ⟨o,0,none⟩),.int .i64 k,.int .i64 c,.slice A3 n3 K3] h Q:=by
 have hna:=G.few.2
 have hok:=G.ok
 obtain ⟨ni,hni⟩:∃ ni,(N.ins p k c).length=ni:=⟨_,rfl⟩
 obtain ⟨no,hno⟩:∃ no,(N.outs p k c).length=no:=⟨_,rfl⟩
 have hni2:ni≤300:=by rw [← hni]; exact Nat.le_trans (takeN_len _ _) hna3
 have hno2:no≤300:=by rw [← hno]; exact Nat.le_trans (takeN_len _ _) hna3
 have hnn:ni * no≤300 * 300:=Nat.mul_le_mul hni2 hno2
 have nil:∀ h',Nw h h'→N.sz p k c=0→Q (.slice none 0 0) h':=fun h' a h0=>hK none 0 0 [] h' ⟨rfl,.inl ⟨rfl,rfl,rfl⟩,fun h=>absurd h (Nat.lt_irrefl _)⟩ ⟨h0.symm,fun i j a b hi hj=>by
  have:=pl_lt (List.getElem?_eq_some_iff.1 hi).1 (List.getElem?_eq_some_iff.1 hj).1
  unfold NetD.sz at h0
  omega⟩ (by simp) a
 refine w_fill_One ⟨fun h=>absurd h (by omega),fun _=>oCells O hk hkl ⟨_,rfl,fun h=>absurd h (by omega),fun _=>oGate O hk hkl hc fun A2 K2 A3' K3' h2 sA sB k2=>⟨_,_,_,_,_,_,rfl,fun h3 e3=>?_⟩⟩⟩
 rw [hni] at sA ⊢
 rw [hno] at sB ⊢
 obtain ⟨h4,s4,k4,g4,z4⟩:=box_st (vs:=[.slice A2 ni K2,.slice A3' no K3']) e3 rfl (flat2 rfl rfl)
 have k04:=k2.trans k4
 refine ⟨h4,s4,_,_,_,ldC_of g4 rfl,fun h0=>nil h4 k04 (by unfold NetD.sz; rw [hni,hno,show ni=0 by omega,Nat.zero_mul]),fun hn0=>⟨_,_,_,ldC_of g4 rfl,fun h0=>nil h4 k04 (by unfold NetD.sz; rw [hni,hno,show no=0 by omega,Nat.mul_zero]),fun ho0=>⟨fun hk1=>?_,fun hk1=>?_⟩⟩⟩
 ·obtain rfl:k=1:=by omega
  refine ⟨_,_,_,_,_,_,ldN_bk g4 (by simp),_,_,_,ldC_of g4 rfl,?_⟩
  have z2:=k2.next
  refine aByArcs (G.nw k04) (sA.nw k4) (sB.nw k4) fun L S sb A' K' h5 hL hN s5 k5=>⟨_,_,_,_,_,_,rfl,ldC_of (k5.bk (by omega) g4) rfl,(sB.eqok),?_⟩
  obtain ⟨hA,hF⟩:=hL.fld hok
  have hLl:=hL.len
  rw [hno] at hF
  refine fLeast s5 hF (by have:4294967296 * (L.length+1)≤4294967296 * 1001:=Nat.mul_le_mul_left _ (by omega); omega) (by omega) (by omega) (by omega) (fun s hs=>?_) hN fun C l h6 b6 hC hC2 hl hr k6=>⟨_,_,_,rfl,?_⟩
  ·have:s<ni:=by simpa using hs
   obtain ⟨M,hM⟩:=hL.pre
   rw [hM,List.length_append]
   omega
  ·have k5':=k5.next
   refine hK _ _ _ l h6 ((Sa.of_ints b6 hl (F:=fun b=>h.next≤b) (by have:=k04.next; omega) hC2)) ⟨by unfold NetD.sz; rw [hni,hno]; exact hl,fun i j a b hi hj=>?_⟩ (rows_nn hl (by simp) hr) (((k04.trans k5).trans k6))
   have hil:i<ni:=by rw [← hni]; exact (List.getElem?_eq_some_iff.1 hi).1
   have hjl:j<no:=by rw [← hno]; exact (List.getElem?_eq_some_iff.1 hj).1
   have:=hA.row hF hi hno (hr i i (by rw [List.getElem?_range hil])) hj
   rw [at_slice hjl] at this
   rw [hno]
   exact this
 ·have hk2:2≤k:=by omega
  refine ⟨_,_,_,_,_,_,ldN_bk g4 (by simp),_,_,_,ldC_of g4 rfl,?_⟩
  have z2:=k2.next
  refine aByKids (G.nw k04) (O.nw k04) hk2 hkl hc (sA.nw k4) (sB.nw k4) (s3.nw k04) hlen hsz hcb fun ks A' K' fb h5 hKs hN s5 k5=>⟨_,_,_,_,_,_,rfl,ldC_of (k5.bk (by omega) g4) rfl,(sB.eqok),?_⟩
  obtain ⟨hA,hF,hB⟩:=hKs.fld hok O.hp hk2 hkl (costs:=costs) fun d hd=>hbel hk2 d (hKs.lt O.hp hk2 hkl hd)
  have hLl:=LK_len (N:=N) (p:=p) (k:=k) hKs.asc (Nat.le_refl ks.length)
  rw [hno] at hF
  refine fLeast s5 hF (by
   have h1:4294967296 * (N.na+2)≤4294967296 * 302:=Nat.mul_le_mul_left _ (by omega)
   have h2:4294967296 * (N.na+2) * ((N.LK p k ks ks.length).length+1)≤(4294967296 * 302) * 301:=Nat.mul_le_mul h1 (by omega)
   omega) (by omega) (by omega) (by omega) (fun s hs=>?_) hN fun C l h6 b6 hC hC2 hl hr k6=>⟨_,_,_,rfl,?_⟩
  ·obtain ⟨a,ha,rfl⟩:=List.mem_map.1 hs
   exact List.idxOf_lt_length_of_mem ((hKs.in_kid hok O.hp hk2 hkl).2 (ins_nest hok O.hp hk2 hkl ha))
  ·have k5':=k5.next
   refine hK _ _ _ l h6 ((Sa.of_ints b6 hl (F:=fun b=>h.next≤b) (by have:=k04.next; omega) hC2)) ⟨by unfold NetD.sz; rw [hni,hno]; exact hl,fun i j a b hi hj=>?_⟩ (rows_nn hl (by simp [hni]) hr) (((k04.trans k5).trans k6))
   have hjl:j<no:=by rw [← hno]; exact (List.getElem?_eq_some_iff.1 hj).1
   have hst:((N.ins p k c).map fun a=>(N.LK p k ks ks.length).idxOf a)[i]? = some ((N.LK p k ks ks.length).idxOf a):=by rw [List.getElem?_map,hi]; rfl
   have:=hA.row hok O.hp hk2 hkl hB hF hi hst hno (hr i _ hst) hj
   rw [at_slice hjl] at this
   rw [hno]
   exact this
end
end Eva
end
section
open Go Go.RowKit
namespace Eva
theorem sz64:∃ i,Tryz.prog.info? 2=some i∧i.size=1:=by
 obtain ⟨q,q1,q2,-⟩:=tyB_parts ty64
 exact ⟨q,q1,q2⟩
theorem sl_rest {P:Program} {e C n lo:Nat} (hT:∃ i,P.info? e=some i∧i.size=1) (h1:lo≤n):∃ x K,(lo<n→x=lo)∧vSliceS P e (some ⟨C,0,none⟩) n (cx n) (some lo) none none=some (.slice (some ⟨C,x,none⟩) (n - lo) K):=by
 obtain ⟨i,hi',hsz⟩:=hT
 unfold vSliceS
 rw [hi']
 have hc2:(cx n) / 2=n:=by unfold cx; omega
 have hp:Nat.beq ((cx n) % 2) 0=true:=by
  have:(cx n) % 2=0:=by unfold cx; omega
  rw [this]; rfl
 have hb1:Nat.ble n ((cx n) / 2)=true:=Nat.ble_eq_true_of_le (by omega)
 have hb0:Nat.ble lo n=true:=Nat.ble_eq_true_of_le h1
 show ∃ x K,(lo<n→x=lo)∧cond (Option.isNone (none:Option Nat) || Option.isSome (none:Option Nat)) (sliceV i.size (some ⟨C,0,none⟩) n (cx n) ((some lo).getD 0) none none) none=_
 simp only [Option.isNone_none,Bool.true_or,cond_true,Option.getD_some]
 unfold sliceV
 simp only [Option.getD_none,hb1,hb0,Bool.and_self,cond_true,hp]
 unfold sliceX addAt
 rw [hc2,hsz,Nat.mul_one]
 cases hb:Nat.beq n lo with
 | true=>
  have:=beq_eq hb
  exact ⟨0,_,fun h=>by omega,rfl⟩
 | false=>
  refine ⟨lo,cx (n - lo),fun _=>rfl,?_⟩
  simp only [cond_false,Option.map_some]
  rw [Addr_add,Nat.zero_add]
section
variable {h:AH} {F:Nat→Prop}
theorem copyL {C n lo x K n2 K2:Nat} {costs l:List Int} {A2:Option Addr} (hb:Bk h C (costs.map (Value.int .i64)) 2) (hn:costs.length=n) (hl:Sa cI F h A2 n2 K2 l) (hlo:lo+n2≤n) (hx:lo<n→x=lo) :
  ∃ h',lCopy Tryz.prog h (some (.slice 2)) (.slice (some ⟨C,x,none⟩) (n - lo) K) (.slice A2 n2 K2)=some (.int .i64 n2,h')∧Bk h' C ((putAt costs l lo).map (Value.int .i64)) 2∧h'.next=h.next∧∀ b,b≠C→h'.get b=h.get b:=by
 obtain ⟨i,hi,hsz⟩:=sz64
 unfold lCopy
 simp only [lenA,hi,hsz]
 have hble:Nat.ble n2 (n - lo)=true:=Nat.ble_eq_true_of_le (by omega)
 rw [hble]
 simp only [cond_true]
 have hl2:=hl.len
 have hf:firstOf h 1 n2 (.slice A2 n2 K2)=some (l.map (Value.int .i64)):=firstOf_cells (by simp [hl2]) fun h0=>by
  obtain ⟨b,o,hA,-,-,hx⟩:=hl.at_ h0
  refine ⟨b,o,hA,fun j u hu=>?_⟩
  rw [List.getElem?_map] at hu
  cases hj:l[j]? with
  | none=>rw [hj] at hu; cases hu
  | some y=>
   rw [hj] at hu
   obtain rfl:=Option.some.inj hu
   obtain ⟨cs,hc,hr⟩:=hx j y hj
   have hr':cs = [.int .i64 y]:=hr
   have:=hc 0 (.int .i64 y) (by rw [hr']; rfl)
   simpa [Rc.int] using this
 rw [hf]
 simp only
 unfold copyTo
 rcases Nat.eq_zero_or_pos n2 with h0 | h0
 ·subst h0
  have:l = []:=List.eq_nil_of_length_eq_zero hl2
  subst this
  refine ⟨h,rfl,?_,rfl,fun _ _=>rfl⟩
  unfold putAt
  simpa using hb
 ·have hb0:Nat.beq (l.map (Value.int .i64)).length 0=false:=by
   cases hb0:Nat.beq (l.map (Value.int .i64)).length 0 with
   | false=>rfl
   | true=>have:=beq_eq hb0; simp at this; rw [this] at hl2; simp at hl2; omega
  simp only [hb0,cond_false]
  obtain rfl:=hx (by omega)
  have:=stN (h:=h) (b:=C) (o:=x) (vs:=l.map (Value.int .i64)) hb (by simp; omega) (fun v hv=>by obtain ⟨y,-,rfl⟩:=List.mem_map.1 hv; rfl)
  unfold stC at this
  rw [this]
  refine ⟨_,rfl,?_,rfl,fun b hb=>by rw [get_put,if_neg hb]⟩
  show (h.put C _).get C=_
  rw [get_put,if_pos rfl]
  unfold putAt
  simp [List.map_take,List.map_drop]
end
section
variable {h:AH} {Q:Value→AH→Prop} {Fa F Fo:Nat→Prop} {g o:Nat} {N:NetD} {p:List (List Int)}
theorem putAt_nn {costs l:List Int} {i:Nat} (h1:∀ x∈costs,0≤x) (h2:∀ x∈l,0≤x):∀ x∈putAt costs l i,0≤x:=fun x hx=>by
 unfold putAt at hx
 rcases List.mem_append.1 hx with hx | hx
 ·rcases List.mem_append.1 hx with hx | hx
  ·exact h1 x (List.mem_of_mem_take hx)
  ·exact h2 x hx
 ·exact h1 x (List.mem_of_mem_drop hx)
theorem aAll (G:GrA h Fa F g N) (hna3:N.na≤300) (O:OvA h Fo o N p) (hsz:N.size p<1000000)
  (hK:∀ (C:Nat) (costs:List Int) (h':AH),Bk h' C (costs.map (Value.int .i64)) 2→h.next≤C→C<h'.next→CostsOk N p costs→(∀ x∈costs,0≤x)→Nw h h'→Q (.slice (some ⟨C,0,none⟩) (N.size p) (cx (N.size p))) h') :
  WC Tryz.prog 75 [.pointer (some ⟨g,0,none⟩),.pointer (some ⟨o,0,none⟩)] h Q:=by
 have hp6:=O.hp.few
 have hp1:=O.hp.some_
 obtain ⟨T,hT⟩:∃ T,N.size p=T:=⟨_,rfl⟩
 refine w_fill_All (oSize O ⟨_,rfl,T,by rw [hT],by omega,fun h2 e2=>?_⟩)
 obtain ⟨k2,g2,z2⟩:=news e2
 rw [rep_one] at g2
 refine ⟨fun m x y h3=>∃ (k:Nat) (costs:List Int),x=((N.start p k 0:Nat):Int)∧y=k∧1≤k∧k≤p.length+1∧m=p.length+1 - k∧costs.length=T∧Bk h3 h.next (costs.map (Value.int .i64)) 2∧(∀ k' c',1≤k'→k' < k→c' < most p k'→CellOk N p costs k' c')∧(∀ x∈costs,0≤x)∧Nw h h3∧h.next<h3.next,p.length,⟨1,List.replicate T 0,by rw [NetD.start_one]; rfl,rfl,Nat.le_refl _,by omega,by omega,by simp,by simpa using g2,fun k' c' h1 h2=>by omega,fun x hx=>by rw [List.eq_of_mem_replicate hx]; exact Int.le_refl _,k2,by omega⟩,?_⟩
 rintro m x y h3 ⟨k,costs,rfl,rfl,hk1,hk2,rfl,hl,b3,hc,hnn,k3,hlt3⟩
 refine oLevels (O.nw k3) ⟨_,rfl,fun hle=>?_,fun hgt=>?_⟩
 ·have hkl:k≤p.length:=by omega
  have wk:IntKind.i64.wrap ((k:Int)+1)=((k+1:Nat):Int):=by rw [Int.natCast_succ]; exact wr_ok (by omega) (by omega)
  refine oCells (O.nw k3) hk1 hkl ⟨_,rfl,fun m x y h6=>∃ (c:Nat) (costs:List Int),x=((N.start p k c:Nat):Int)∧y=c∧c≤most p k∧m=most p k - c∧costs.length=T∧Bk h6 h.next (costs.map (Value.int .i64)) 2∧(∀ k' c',1≤k'→k'≤p.length→c' < most p k'→(k' < k∨(k' = k∧c' < c))→CellOk N p costs k' c')∧(∀ x∈costs,0≤x)∧Nw h h6∧h.next<h6.next,most p k,⟨0,costs,rfl,rfl,Nat.zero_le _,rfl,hl,b3,fun k' c' h1 h2 h3 h4=>h4.elim (fun h=>hc k' c' h1 h h3) (fun h=>by omega),hnn,k3,hlt3⟩,?_⟩
  rintro m x y h6 ⟨c,costs',rfl,rfl,hcm,rfl,hl',b6,hc',hnn',k6,hlt6⟩
  refine ⟨fun hlt=>?_,fun hge=>?_⟩
  ·have hcl:c<most p k:=by omega
   have hse:=NetD.start_end (N:=N) hk1 hkl hcl
   obtain ⟨st,hst⟩:∃ st,N.start p k c=st:=⟨_,rfl⟩
   rw [hst] at hse
   have hmost:most p k≤N.nv:=by
    obtain ⟨row,hr⟩:∃ row,p[k - 1]? = some row:=⟨_,List.getElem?_eq_getElem (by omega)⟩
    have h2:=most_row hr
    have h3:=mostOf_le (row:=row) (n:=(N.nv:Int)) (by omega) (fun x hx=>(O.hp.inr _ (List.mem_of_getElem? hr) x hx).2)
    omega
   have hnv:=O.nfew.1
   have wc:IntKind.i64.wrap ((c:Int)+1)=((c+1:Nat):Int):=by rw [Int.natCast_succ]; exact wr_ok (by omega) (by omega)
   obtain ⟨x1,K1,hx1,hsl⟩:=sl_rest (P:=Tryz.prog) (C:=h.next) (n:=T) (lo:=st) sz64 (by omega)
   have s6:Sa cI (fun b=>b=h.next) h6 (some ⟨h.next,0,none⟩) T (cx T) costs':=Sa.of_ints b6 hl' rfl hlt6
   refine ⟨st,by rw [hst],_,_,_,hsl,aOne (G.nw k6) hna3 (O.nw k6) hk1 hkl hcl s6 (by omega) (by omega) hnn' (fun h2 d hd=>hc' (k - 1) d (by omega) (by omega) hd (.inl (by omega))) fun A2 n2 K2 l h7 s7 hone hlnn k7=>⟨_,_,_,rfl,?_⟩⟩
   have b7:=k7.bk hlt6 b6
   have hn2:n2=N.sz p k c:=by rw [← s7.len]; exact hone.1
   obtain ⟨h8,y1,y2,y3,y4⟩:=copyL (K:=K1) b7 hl' s7 (lo:=st) (x:=x1) (by omega) hx1
   have w9:IntKind.i64.wrap ((st:Int)+(n2:Int))=((N.start p k (c+1):Nat):Int):=by
    rw [NetD.start_cell,hst,← hn2,Int.natCast_add]
    exact wr_ok (by omega) (by omega)
   have z7:=k7.next
   refine ⟨_,h8,y1,_,w9,_,wc,most p k - (c+1),by omega,c+1,putAt costs' l st,rfl,rfl,hcl,rfl,by rw [putAt_len (by rw [s7.len]; omega)]; exact hl',y2,fun k' c' h1 h2 h3 h4=>?_,putAt_nn hnn' hlnn,⟨by have:=k6.next; omega,fun b hb=>(y4 b (by omega)).trans ((k7.get b (by omega)).trans (k6.get b hb))⟩,by omega⟩
   by_cases e:k=k'∧c=c'
   ·obtain ⟨rfl,rfl⟩:=e
    rw [← hst]
    exact CellOk.put (by omega) hk1 hkl hcl hone
   ·rw [← hst]
    exact CellOk.putO (by omega) hk1 hkl hcl hone.1 h1 h2 h3 e (hc' k' c' h1 h2 h3 (by omega))
  ·obtain rfl:c=most p k:=by omega
   exact ⟨_,wk,p.length+1 - (k+1),by omega,k+1,costs',by rw [NetD.start_lev hk1],rfl,by omega,by omega,rfl,hl',b6,fun k' c' h1 h2 h3=>hc' k' c' h1 (by omega) h3 (by
    rcases Nat.lt_or_ge k' k with h4 | h4
    ·exact .inl h4
    ·obtain rfl:k' = k:=by omega
     exact .inr ⟨rfl,h3⟩),hnn',k6,hlt6⟩
 ·obtain rfl:k=p.length+1:=by omega
  have:=hK h.next costs h3 b3 (Nat.le_refl _) hlt3 ⟨by omega,fun k c h1 h2 h3=>hc k c h1 (by omega) h3⟩ hnn k3
  rwa [hT] at this
end
end Eva
end
section
open Go Go.RowKit
namespace Eva
theorem tyIs:tyB Tryz.prog 43 1 24=true:=by kernel_rfl
section
variable {h:AH} {Q:Value→AH→Prop} {F:Nat→Prop} {A:Option Addr} {n K:Nat} {p:List (List Int)}
theorem oTwin (hs:Sa cRows F h A n K p) (hn:n≤1000) (hm:∀ x∈p,x.length≤100000) (hK:∀ A' K' h',Sa cRows (fun b=>h.next≤b) h' A' n K' p→Nw h h'→Q (.agg #[.slice A' n K']) h'):WC Tryz.prog 150 [.agg #[.slice A n K]] h Q:=by
 refine w_over_twin fun h1 e1 h2 e2 h3 e3=>?_
 obtain ⟨k1,g1,z1⟩:=news e1
 obtain ⟨k2,g2,z2⟩:=news e2
 obtain ⟨k3,g3,z3⟩:=news e3
 have hpl:=hs.len
 refine ⟨_,_,_,ldC_of ((k2.trans k3).bk (by omega) g1) rfl,fun m x h4=>∃ (i:Nat) (A':Option Addr) (K':Nat) (D:Nat→Prop),x=i∧i≤n∧m=n - i∧Bk h4 h2.next [.slice A' i K'] 41∧OwnP cRows h4 D 43 A' i K' (p.take i)∧(∀ b,D b→h3.next≤b∧b<h4.next)∧h3.next≤h4.next∧(∀ b,b<h3.next→b≠h2.next→h4.get b=h3.get b),n,⟨0,none,0,fun _=>False,rfl,Nat.zero_le _,rfl,g3,OwnP.nil _ _ _ _,fun b hb=>hb.elim,Nat.le_refl _,fun _ _ _=>rfl⟩,?_⟩
 rintro m x h4 ⟨i,A',K',D,rfl,hi,rfl,b4,o4,hD,hz4,q4⟩
 have k04:Nw h h4:=⟨by omega,fun b hb=>(q4 b (by omega) (by omega)).trans (((k1.trans k2).trans k3).get b hb)⟩
 refine ⟨fun hlt=>?_,fun hge=>?_⟩
 ·have hil:i<n:=by omega
  obtain ⟨b,o,A3,n3,K3,row,hA,-,-,hr,e0,s0⟩:=(hs.nw k04).row (k:=i) hil
  have hrl:=hm row (List.mem_of_getElem? hr)
  have w1:IntKind.i64.wrap ((i:Int)+1)=((i+1:Nat):Int):=by rw [Int.natCast_succ]; exact wr_ok (by omega) (by omega)
  refine ⟨i,rfl,b,o,hA,hil,_,_,_,e0,_,_,_,ldC_of b4 rfl,oFresh s0 (by rw [← s0.len]; exact hrl) fun A5 K5 h5 s5 k5=>⟨_,_,_,rfl,ldC_of (k5.bk (by omega) b4) rfl,o4.spot,fun h6 e6=>?_⟩⟩
  obtain ⟨k6,g6,z6⟩:=news e6
  have z5:=k5.next
  have hz:Sz cRows (fun b=>h4.next≤b∧b<h6.next) h6 (some ⟨h5.next,0,none⟩) 1 2 [row]:=Sz.one g6 ⟨by omega,by omega⟩ (by omega) rfl ⟨A5,n3,K5,rfl,(s5.nw k6).mono fun b hb hlt=>⟨hb,hlt⟩⟩
  obtain ⟨A6,K6,h7,y1,y2,y3,y4⟩:=app_rows (r:=cRows) (bytes:=24) tyIs (o4.nw (k5.trans k6)) hz (fun b hb ho=>by have:=(hD b (o4.lt ho).1).2; omega) (by omega) (by omega)
  have z7:=y3.next
  have b7:Bk h7 h2.next [.slice A' i K'] 41:=y3.bk (by omega) (fun ho=>by have:=(hD _ (o4.lt ho).1).1; omega) ((k5.trans k6).bk (by omega) b4)
  obtain ⟨h8,s8,b8,z8,o8⟩:=st_one (v:=.slice A6 (i+1) K6) b7 (o:=0) (by simp) rfl
  refine ⟨A6,i+1,K6,h7,y1,h8,s8,_,w1,n - (i+1),by omega,i+1,A6,K6,fun b=>(D b∨(h4.next≤b∧b<h6.next)∨b=h6.next)∧b<h7.next,rfl,hil,rfl,b8,?_,fun b hb=>?_,by omega,fun b hb hne=>(o8 b hne).trans ((y3.get b (by omega) (fun ho=>by have:=(hD _ (o4.lt ho).1).1; omega)).trans (((k5.trans k6).get b (by omega)).trans (q4 b hb hne)))⟩
  ·rw [List.take_add_one,hr]
   exact (y2.mono (D':=fun b=>(D b∨(h4.next≤b∧b<h6.next)∨b=h6.next)∧b<h7.next) fun b hb hlt=>⟨hb,hlt⟩).keep (fun b hb _=>o8 b (by
    rcases hb.1 with h9 | h9 | h9
    ·have:=(hD b h9).1; omega
    ·omega
    ·omega)) (by omega)
  ·rcases hb.1 with h9 | h9 | h9
   ·have:=hD b h9; omega
   ·omega
   ·omega
 ·obtain rfl:i=n:=by omega
  rw [List.take_of_length_le (by omega)] at o4
  have b1:Bk h4 h1.next [.slice none 0 0] 41:=(q4 _ (by omega) (by omega)).trans (k3.bk (by omega) g2)
  obtain ⟨h9,s9,b9,z9,o9⟩:=st_one (v:=.slice A' i K') b1 (o:=0) (by simp) rfl
  refine ⟨_,_,_,ldN1 (ldC_of b4 rfl),h9,s9,_,_,_,ldN1 (ldC_of b9 rfl),hK A' K' h9 ((o4.sa.keep (fun b hb _=>o9 b (by have:=(hD b hb).1; omega)) (by omega)).mono fun b hb _=>by have:=(hD b hb).1; omega) ⟨by omega,fun b hb=>(o9 b (by omega)).trans (k04.get b hb)⟩⟩
theorem oPart {o:Nat} {N:NetD} (O:OvA h F o N p) (hK:∀ A' K' h',Sa cRows (fun b=>h.next≤b) h' A' p.length K' p→Nw h h'→Q (.agg #[.slice A' p.length K']) h'):WC Tryz.prog 87 [.pointer (some ⟨o,0,none⟩)] h Q:=by
 refine w_over_Over_Part fun h1 e1=>?_
 obtain ⟨k1,g1,z1⟩:=news e1
 obtain ⟨A,n,K,c0,s⟩:=(O.nw k1).part
 have hn:=s.len
 have hp6:=O.hp.few
 have hnv:=O.hp.nv_
 refine ⟨o,0,rfl,A,n,K,ldN1 c0,oTwin s (by omega) (fun x hx=>by have:=O.hp.rows x hx; omega) fun A' K' h2 s2 k2=>⟨_,_,_,rfl,?_⟩⟩
 have b2:=k2.bk (by omega) g1
 obtain ⟨h3,s3,b3,z3,o3⟩:=st_one (v:=.slice A' n K') b2 (o:=0) (by simp) rfl
 have z2:=k2.next
 refine ⟨h3,s3,_,_,_,ldN1 (ldC_of b3 rfl),?_⟩
 have hh:=hK A' K' h3 (by rw [hn]; exact (s2.keep (fun b hb _=>o3 b (by omega)) (by omega)).mono fun b hb _=>by omega) ⟨by omega,fun b hb=>(o3 b (by omega)).trans ((k1.trans k2).get b hb)⟩
 rwa [hn] at hh
theorem idx3 (a b c:Int):vIndex Tryz.prog (some (.array 3 3)) (.agg #[.int .i64 a,.int .i64 b,.int .i64 c]) (some 0)=some (.int .i64 a)∧vIndex Tryz.prog (some (.array 3 3)) (.agg #[.int .i64 a,.int .i64 b,.int .i64 c]) (some 1)=some (.int .i64 b)∧vIndex Tryz.prog (some (.array 3 3)) (.agg #[.int .i64 a,.int .i64 b,.int .i64 c]) (some 2)=some (.int .i64 c):=⟨by kernel_rfl,by kernel_rfl,by kernel_rfl⟩
theorem aLevelOf {nv:Nat} (hp:PartOk nv p) (hs:Sa cRows F h A n K p) {v a b:Nat} (hv:v<nv) (ha:a<nv) (hb:b<nv) (hK:Q (.int .i64 ((levUp p v a b n:Nat):Int)) h):WC Tryz.prog 163 [.slice A n K,.int .i64 v,.int .i64 a,.int .i64 b] h Q:=by
 have hn6:n≤6:=by rw [← hs.len]; exact hp.few
 have hnv:=hp.nv_
 refine w_ask_levelOf ⟨fun m x h1=>∃ k:Nat,x=k∧k≤n∧m=k∧levUp p v a b n=levUp p v a b k∧h1=h,n,⟨n,rfl,Nat.le_refl _,rfl,rfl,rfl⟩,?_⟩
 rintro m x h1 ⟨k,rfl,hk,rfl,hlv,rfl⟩
 refine ⟨fun hge=>?_,fun hlt=>?_⟩
 ·obtain ⟨k,rfl⟩:∃ k',m=k' + 1:=⟨m - 1,by omega⟩
  have wk:IntKind.i64.wrap (((k+1:Nat):Int) - 1)=(k:Int):=by
   rw [show ((k+1:Nat):Int) - 1=(k:Int) by omega]; exact wr_ok (by omega) (by omega)
  obtain ⟨b1,o1,A2,n2,K2,row,rfl,-,-,hr,e0,s2⟩:=hs.row (k:=k) (by omega)
  have hr':p[k+1 - 1]? = some row:=hr
  obtain ⟨hl,hx⟩:=part_row hp hr'
  have hn2:n2=nv:=by rw [← s2.len]; exact hl
  subst hn2
  obtain ⟨v0,hv0,hv1,-⟩:=hx v hv
  obtain ⟨a0,ha0,ha1,-⟩:=hx a ha
  obtain ⟨b0,hb0,hb1,-⟩:=hx b hb
  have rd:∀ {j:Nat} {y:Int},j<n2→row[j]? = some y→∃ b2 o2,A2=some ⟨b2,o2,none⟩∧ldC h1 b2 (o2+j)=some (.int .i64 y):=fun {j y} hj hy=>by
   obtain ⟨b2,o2,y',rfl,-,-,hy',e⟩:=s2.int (k:=j) hj
   rw [hy] at hy'
   obtain rfl:=Option.some.inj hy'
   exact ⟨b2,o2,rfl,e⟩
  obtain ⟨b2,o2,rfl,ev⟩:=rd hv hv0
  have ea:ldC h1 b2 (o2+a)=some (.int .i64 a0):=by
   obtain ⟨b3,o3,hA,e⟩:=rd ha ha0
   injection hA with hA
   injection hA with h1 h2
   subst h1 h2
   exact e
  have eb:ldC h1 b2 (o2+b)=some (.int .i64 b0):=by
   obtain ⟨b3,o3,hA,e⟩:=rd hb hb0
   injection hA with hA
   injection hA with h1 h2
   subst h1 h2
   exact e
  have cv:cel p (k+1) v=v0.toNat:=cel_row hr' hv0
  have ca:cel p (k+1) a=a0.toNat:=cel_row hr' ha0
  have cb:cel p (k+1) b=b0.toNat:=cel_row hr' hb0
  have hdown:(cel p (k+1) v=cel p (k+1) a∨cel p (k+1) v=cel p (k+1) b)→levUp p v a b n=levUp p v a b k:=fun h=>by
   rw [hlv,levUp,if_neg (fun h'=>h.elim h'.1 h'.2)]
  obtain ⟨i0,i1,i2⟩:=idx3 (v:Int) (a:Int) (b:Int)
  refine ⟨_,wk,k,rfl,b1,o1,rfl,by omega,_,_,_,e0,fun m x h2=>∃ j:Nat,x=j∧j≤3∧m=3 - j∧h2=h1,3,⟨0,rfl,by omega,rfl,rfl⟩,?_⟩
  rintro m x h2 ⟨j,rfl,hj,rfl,rfl⟩
  refine ⟨fun hj3=>?_,fun hj3=>?_⟩
  ·have fin:∀ y:Nat,y<n2→(((y:Int)<0→Q (.int .i64 0) h2)∧(¬ ((y:Int)<0)→(((n2:Int):Int)≤y→Q (.int .i64 0) h2)∧(¬ (((n2:Int):Int)≤y)→∃ x8:Int,IntKind.i64.wrap ((j:Int)+1)=x8∧∃ m':Nat,m' < 3 - j∧∃ j':Nat,x8=j'∧j'≤3∧m' = 3 - j'∧h2=h2))):=fun y hy=>
    ⟨fun h=>absurd h (by omega),fun _=>⟨fun h=>absurd h (by omega),fun _=>⟨_,wr_ok (by omega) (by omega),3 - (j+1),by omega,j+1,by omega,by omega,rfl,rfl⟩⟩⟩
   match j,hj3 with
   | 0,_=>exact ⟨0,rfl,_,i0,fin v hv⟩
   | 1,_=>exact ⟨1,rfl,_,i1,fin a ha⟩
   | 2,_=>exact ⟨2,rfl,_,i2,fin b hb⟩
   | j+3,h=>exact absurd h (by omega)
  ·refine ⟨v,rfl,b2,o2,rfl,hv,_,ev,a,rfl,ha,_,ea,fun he=>⟨_,wk,k,by omega,k,rfl,by omega,rfl,hdown (.inl (by rw [cv,ca,he])),rfl⟩,fun hne=>⟨hv,_,ev,b,rfl,hb,_,eb,fun he=>⟨_,wk,k,by omega,k,rfl,by omega,rfl,hdown (.inr (by rw [cv,cb,he])),rfl⟩,fun hne2=>?_⟩⟩
   rw [hlv,levUp,if_pos ⟨by rw [cv,ca]; omega,by rw [cv,cb]; omega⟩] at hK
   exact hK
 ·obtain rfl:m=0:=by omega
  rw [hlv] at hK
  exact hK
end
end Eva
end
section
open Go Go.RowKit
noncomputable def NetD.le (N:NetD) (p:List (List Int)) (costs:List Int) (s t:Nat) (a b:Nat):Option Nat:=leapE N.e (N.lp p (N.ent p costs) (N.lev p s t)) N.to (N.lev p s t) a b
structure NextR (N:NetD) (p:List (List Int)) (costs:List Int) (s t a:Nat) (ol:List Nat) (pr:List Int):Prop where
 len:pr.length=ol.length
 lt:∀ b∈ol,b<N.na
 nn:∀ x∈pr,0≤x∧x≤INF
 here:∀ (i b:Nat) (x:Int),ol[i]? = some b→pr[i]? = some x→x<INF→N.w b<INF→N.le p costs s t a b=some (x.toNat+(N.w b).toNat)
 all:∀ (b y:Nat),N.le p costs s t a b=some y→∃ (i:Nat) (x:Int),ol[i]? = some b∧pr[i]? = some x∧x<INF∧N.w b<INF∧y=x.toNat+(N.w b).toNat
 few:ol.length≤N.na
section
variable {N:NetD} {p:List (List Int)} {costs:List Int} {s t a:Nat}
theorem lev_eq (hok:N.Ok) (ha:a<N.na):N.lev p s t (N.to a)=levUp p (N.to a) (N.to s) (N.fr t) p.length:=by
 unfold NetD.lev
 have:=(NetD.to_lt hok ha).1
 rw [Nat.min_eq_left (by omega)]
theorem nextR_arcs (hok:N.Ok) (ha:a<N.na) (hl:N.lev p s t (N.to a)=0):NextR N p costs s t a (N.from_ (N.to a)) ((N.from_ (N.to a)).map fun b=>N.turn a b):=by
 refine ⟨by simp,fun b hb=>((NetD.mem_from hok).1 hb).1,fun x hx=>?_,fun i b x hi hx h1 h2=>?_,fun b y hy=>?_,takeN_len _ _⟩
 ·obtain ⟨b,-,rfl⟩:=List.mem_map.1 hx
  have:=NetD.turn_bd hok a b
  unfold INF at *
  omega
 ·rw [List.getElem?_map,hi] at hx
  obtain rfl:=Option.some.inj hx
  unfold NetD.le leapE
  rw [if_pos hl]
  exact NetD.e_some.2 ⟨h1,h2,rfl⟩
 ·unfold NetD.le leapE at hy
  rw [if_pos hl] at hy
  obtain ⟨h1,h2,rfl⟩:=NetD.e_some.1 hy
  obtain ⟨-,t2,t3⟩:=NetD.turn_in h1
  obtain ⟨i,hi⟩:=List.getElem?_of_mem ((NetD.mem_from hok).2 ⟨t2,t3.symm⟩)
  exact ⟨i,_,hi,by rw [List.getElem?_map,hi]; rfl,h1,h2,rfl⟩
theorem lp_some {ent:Nat→Nat→Nat→Int} {lev:Nat→Nat} {b y:Nat}:N.lp p ent lev a b=some y↔a<N.na∧b<N.na∧N.inA p (lev (N.to a)) (cel p (lev (N.to a)) (N.to a)) a∧N.outA p (lev (N.to a)) (cel p (lev (N.to a)) (N.to a)) b∧ent (lev (N.to a)) a b<INF∧N.w b<INF∧y=(ent (lev (N.to a)) a b).toNat+(N.w b).toNat:=by
 unfold NetD.lp
 split
 ·rename_i h
  simp only [Option.some.injEq]
  constructor
  ·rintro rfl; exact ⟨h.1,h.2.1,h.2.2.1,h.2.2.2.1,h.2.2.2.2.1,h.2.2.2.2.2,rfl⟩
  ·rintro ⟨_,_,_,_,_,_,rfl⟩; rfl
 ·rename_i h
  constructor
  ·intro h'; cases h'
  ·rintro ⟨h1,h2,h3,h4,h5,h6,_⟩; exact absurd ⟨h1,h2,h3,h4,h5,h6⟩ h
theorem nextR_none (hl:N.lev p s t (N.to a)≠0) (h:a ∉ N.ins p (N.lev p s t (N.to a)) (cel p (N.lev p s t (N.to a)) (N.to a))∨N.outs p (N.lev p s t (N.to a)) (cel p (N.lev p s t (N.to a)) (N.to a)) = []):NextR N p costs s t a [] []:=by
 refine ⟨rfl,by simp,by simp,by simp,fun b y hy=>?_,Nat.zero_le _⟩
 unfold NetD.le leapE at hy
 rw [if_neg hl] at hy
 obtain ⟨h1,h2,h3,h4,-⟩:=lp_some.1 hy
 exfalso
 rcases h with h | h
 ·exact h (NetD.mem_ins.2 ⟨h1,h3⟩)
 ·have:=NetD.mem_outs.2 ⟨h2,h4⟩
  rw [h] at this
  cases this
theorem nextR_leaps (hok:N.Ok) (hp:PartOk N.nv p) (hco:CostsOk N p costs) (ha:a<N.na) {l c:Nat} (hl:N.lev p s t (N.to a)=l) (hl0:l≠0) (hc:cel p l (N.to a)=c) (hin:a∈N.ins p l c) :
  NextR N p costs s t a (N.outs p l c) ((costs.drop (N.start p l c+(N.ins p l c).idxOf a * (N.outs p l c).length)).take (N.outs p l c).length):=by
 have hll:l≤p.length:=by rw [← hl]; exact levUp_le _ _ _ _ _
 have hto:=(NetD.to_lt hok ha).1
 have hcm:c<most p l:=by rw [← hc]; exact cel_most hp (by omega) hll hto
 have hse:=NetD.start_end (N:=N) (p:=p) (k:=l) (by omega) hll hcm
 have hidx:=List.idxOf_lt_length_of_mem hin
 have hmul:((N.ins p l c).idxOf a+1) * (N.outs p l c).length≤(N.ins p l c).length * (N.outs p l c).length:=Nat.mul_le_mul_right _ hidx
 rw [Nat.succ_mul] at hmul
 unfold NetD.sz at hse
 have hlen:=hco.1
 have get:∀ {i:Nat},i<(N.outs p l c).length→((costs.drop (N.start p l c+(N.ins p l c).idxOf a * (N.outs p l c).length)).take (N.outs p l c).length)[i]? = some (at_ costs (N.start p l c+((N.ins p l c).idxOf a * (N.outs p l c).length+i))):=fun {i} hi=>by
  rw [List.getElem?_take,if_pos hi,List.getElem?_drop,Nat.add_assoc]
  unfold at_
  rw [List.getElem?_eq_getElem (by omega)]
  rfl
 have ent:∀ {i b:Nat},(N.outs p l c)[i]? = some b→N.ent p costs l a b=at_ costs (N.start p l c+((N.ins p l c).idxOf a * (N.outs p l c).length+i)):=fun {i b} hi=>by
  unfold NetD.ent
  have e:(N.outs p l c).idxOf b=i:=asc_one (takeN_asc _ _) (get_idxOf (List.mem_of_getElem? hi)) hi
  rw [hc,e]
 refine ⟨by rw [List.length_take,List.length_drop]; omega,fun b hb=>(NetD.mem_outs.1 hb).1,fun x hx=>?_,fun i b x hi hx h1 h2=>?_,fun b y hy=>?_,takeN_len _ _⟩
 ·obtain ⟨i,hi⟩:=List.getElem?_of_mem hx
  have hil:i<(N.outs p l c).length:=by
   have:=(List.getElem?_eq_some_iff.1 hi).1
   rw [List.length_take] at this
   omega
  rw [get hil] at hi
  obtain rfl:=Option.some.inj hi
  exact (hco.2 l c (by omega) hll hcm _ i a _ (get_idxOf hin) (List.getElem?_eq_getElem hil)).bd
 ·rw [get (List.getElem?_eq_some_iff.1 hi).1] at hx
  have hx':=Option.some.inj hx
  unfold NetD.le leapE
  rw [if_neg (by rw [hl]; exact hl0)]
  obtain ⟨o1,o2⟩:=NetD.mem_outs.1 (List.mem_of_getElem? hi)
  refine lp_some.2 ⟨ha,o1,?_,?_,?_,h2,?_⟩
  ·rw [hl,hc]; exact (NetD.mem_ins.1 hin).2
  ·rw [hl,hc]; exact o2
  ·rw [hl,ent hi,hx']; exact h1
  ·rw [hl,ent hi,hx']
 ·unfold NetD.le leapE at hy
  rw [if_neg (by rw [hl]; exact hl0)] at hy
  obtain ⟨h1,h2,h3,h4,h5,h6,rfl⟩:=lp_some.1 hy
  rw [hl,hc] at h4
  rw [hl] at h5 ⊢
  obtain ⟨i,hi⟩:=List.getElem?_of_mem (NetD.mem_outs.2 ⟨h2,h4⟩)
  refine ⟨i,_,hi,get (List.getElem?_eq_some_iff.1 hi).1,?_,h6,?_⟩
  ·rw [← ent hi]; exact h5
  ·rw [← ent hi]
end
namespace Eva
def GateOk (N:NetD) (p:List (List Int)) (D:Nat→Prop) (h:AH) (l c:Nat) (v:Value):Prop:=
 ∃ A K B L,v = .agg #[.slice A (N.ins p l c).length K,.slice B (N.outs p l c).length L]∧Sa cI D h A (N.ins p l c).length K (ints (N.ins p l c))∧Sa cI D h B (N.outs p l c).length L (ints (N.outs p l c))
structure QA (h0:AH) (N:NetD) (p:List (List Int)) (g o C s t q mp bf:Nat) (cA:Option Addr) (cK:Nat) (D:Nat→Prop) (h:AH):Prop where
 nw:Nw h0 h
 blk:Bk h q [.pointer (some ⟨g,0,none⟩),.pointer (some ⟨o,0,none⟩),.slice (some ⟨C,0,none⟩) (N.size p) (cx (N.size p)),.int .i64 s,.int .i64 t,.slice cA p.length cK,.map (some mp),.slice (some ⟨bf,0,none⟩) N.na (cx N.na)] 213
 cells:Sa cRows D h cA p.length cK p
 map_:∃ f,MapF kNN h mp f∧∀ l c v,f (l,c)=some v→GateOk N p D h l c v
 dlo:∀ b,D b→h0.next≤b∧b<h.next∧b≠q∧b≠mp∧b≠bf
 pos:h0.next≤q∧h0.next≤mp∧h0.next≤bf∧q≠mp∧q≠bf∧mp≠bf∧q<h.next∧mp<h.next∧bf<h.next
section
variable {h h' h0:AH} {Q:Value→AH→Prop} {Fa F Fo:Nat→Prop} {N:NetD} {p:List (List Int)} {g o C s t q mp bf:Nat} {cA:Option Addr} {cK:Nat} {D:Nat→Prop} {a:Nat}
theorem QA.off {S:Nat→Prop} (B:QA h0 N p g o C s t q mp bf cA cK D h) (m:Mt S h h') (hS:∀ b,S b→h0.next≤b∧b≠q∧b≠mp∧¬ D b):QA h0 N p g o C s t q mp bf cA cK D h':=by
 obtain ⟨p1,p2,p3,p4,p5,p6,p7,p8,p9⟩:=B.pos
 have z:=m.next
 have nD:∀ {b},D b→¬ S b:=fun hd hs=>(hS _ hs).2.2.2 hd
 obtain ⟨f,f1,f2⟩:=B.map_
 refine ⟨m.is_nw B.nw fun b hb=>(hS b hb).1,m.bk p7 (fun hs=>(hS _ hs).2.1 rfl) B.blk,B.cells.off m fun b hb=>nD hb,⟨f,f1.keep (m.get _ p8 (fun hs=>(hS _ hs).2.2.1 rfl)),fun l c v hv=>?_⟩,fun b hb=>by have:=B.dlo b hb; omega,by omega⟩
 obtain ⟨A,K,B',L,e,s1,s2⟩:=f2 l c v hv
 exact ⟨A,K,B',L,e,s1.off m fun b hb=>nD hb,s2.off m fun b hb=>nD hb⟩
theorem QA.next (B:QA h0 N p g o C s t q mp bf cA cK D h) (a:Nw h h'):QA h0 N p g o C s t q mp bf cA cK D h':=B.off (S:=fun _=>False) (Mt.of a) (fun b hb=>hb.elim)
theorem aLevel (B:QA h0 N p g o C s t q mp bf cA cK D h) (G:GrA h0 Fa F g N) (hp:PartOk N.nv p) (hs:s<N.na) (ht:t<N.na) (ha:a<N.na) (hK:Q (.int .i64 ((N.lev p s t (N.to a):Nat):Int)) h):WC Tryz.prog 99 [.pointer (some ⟨q,0,none⟩),.int .i64 a] h Q:=by
 have G1:=G.nw B.nw
 have c0:ldC h q 0=some (.pointer (some ⟨g,0,none⟩)):=ldC_of B.blk rfl
 have c3:ldC h q (0+3)=some (.int .i64 s):=ldC_of B.blk rfl
 have c4:ldC h q (0+4)=some (.int .i64 t):=ldC_of B.blk rfl
 have c5:ldC h q (0+5)=some (.slice cA p.length cK):=ldC_of B.blk rfl
 rw [lev_eq G.ok ha] at hK
 exact w_ask_quest_level ⟨q,0,rfl,_,_,_,c5,_,c0,_,c0,_,c3,_,c0,_,c4,aTo G1 ha ⟨_,rfl,c4,c0,rfl,c3,c0,rfl,c5,B.cells.eqok,aTo G1 hs ⟨_,rfl,c4,c0,rfl,c5,B.cells.eqok,aFrom G1 ht ⟨_,rfl,c5,B.cells.eqok,aLevelOf hp B.cells (NetD.to_lt G.ok ha).1 (NetD.to_lt G.ok hs).1 (NetD.fr_lt G.ok ht).1 ⟨_,rfl,hK⟩⟩⟩⟩⟩
theorem keyG:KeyOk Tryz.prog 292 kNN:=by
 obtain ⟨i,hi,hsz,-⟩:=tyB_parts tyI8
 exact keyNN (d:=.i64) Tryz.underlying292 Tryz.underlying3 hi hsz
theorem infoG:∃ i,Tryz.prog.info? 202=some i∧i.zero=some (.agg #[.slice none 0 0,.slice none 0 0]):=by
 obtain ⟨i,hi,-⟩:=tyB_parts tyG
 refine ⟨i,hi,?_⟩
 have:(match Tryz.prog.info? 202 with | some i=>i.zero | none=>none)=some (.agg #[.slice none 0 0,.slice none 0 0]):=by kernel_rfl
 rw [hi] at this
 exact this
theorem oAtF (O:OvA h Fo o N p) {k d:Nat} (hk:1≤k) (hkl:k≤p.length) (hd:d<most p k)
  (h1:∀ h',a ∉ N.ins p k d∨N.outs p k d = []→Nw h h'→Q (.int .i64 (-1)) h')
  (h2:∀ h',a∈N.ins p k d→N.outs p k d≠[]→Nw h h'→Q (.int .i64 ((N.start p k d+(N.ins p k d).idxOf a * (N.outs p k d).length:Nat):Int)) h') :
  WC Tryz.prog 47 [.pointer (some ⟨o,0,none⟩),.int .i64 k,.int .i64 d,.int .i64 (placeI (N.ins p k d) a),.int .i64 0] h Q:=by
 by_cases ha:a∈N.ins p k d
 ·have hpl:placeI (N.ins p k d) a=(((N.ins p k d).idxOf a:Nat):Int):=by unfold placeI; rw [if_pos ha]
  rw [hpl]
  have hidx:=List.idxOf_lt_length_of_mem ha
  by_cases he:N.outs p k d = []
  ·obtain ⟨k',rfl⟩:∃ k',k=k' + 1:=⟨k - 1,by omega⟩
   have h0:(N.outs p (k' + 1) d).length=0:=by rw [he]; rfl
   have hp6:=O.hp.few
   obtain ⟨b1,o1,n1,K1,b2,o2,K2,A3,K3,A4,K4,c3,hkn,l1,e2,l2,e3,e4,s3,s4⟩:=O.gate_ (k:=k') (by omega) hd
   rw [h0] at e4
   refine w_over_Over_At (oHas O (by omega) (by omega) hd ⟨_,rfl,fun _=>?_,fun h=>Bool.noConfusion h⟩)
   refine ⟨_,_,rfl,_,_,_,c3,_,wr_ok (by omega) (by omega),k',by omega,_,_,rfl,hkn,_,_,_,e2,d,rfl,_,_,rfl,hd,_,_,_,_,_,_,ldN2 e3 e4,fun h2 e7=>?_⟩
   obtain ⟨h3,hs3,k3,g3,z3⟩:=box_st (vs:=[.slice A3 (N.ins p (k' + 1) d).length K3,.slice A4 0 K4]) e7 rfl (flat2 rfl rfl)
   exact ⟨h3,hs3,fun h=>absurd h (by omega),fun _=>⟨_,_,_,ldC_of g3 rfl,fun h=>absurd h (by omega),fun _=>⟨fun h=>absurd h (by omega),fun _=>⟨_,_,_,ldC_of g3 rfl,fun _=>h1 _ (.inr he) k3,fun h=>absurd (Int.le_refl _) h⟩⟩⟩⟩
  ·have h0:0<(N.outs p k d).length:=by cases hx:N.outs p k d with | nil=>exact absurd hx he | cons x l=>simp
   refine oAt O (j:=0) (by omega) (by omega) hd hidx h0 fun h' k'=>?_
   have:=h2 h' ha he k'
   rwa [Nat.add_zero]
 ·have hpl:placeI (N.ins p k d) a = -1:=by unfold placeI; rw [if_neg ha]
  rw [hpl]
  obtain ⟨k',rfl⟩:∃ k',k=k' + 1:=⟨k - 1,by omega⟩
  have hp6:=O.hp.few
  obtain ⟨b1,o1,n1,K1,b2,o2,K2,A3,K3,A4,K4,c3,hkn,l1,e2,l2,e3,e4,s3,s4⟩:=O.gate_ (k:=k') (by omega) hd
  refine w_over_Over_At (oHas O (by omega) (by omega) hd ⟨_,rfl,fun _=>?_,fun h=>Bool.noConfusion h⟩)
  refine ⟨_,_,rfl,_,_,_,c3,_,wr_ok (by omega) (by omega),k',by omega,_,_,rfl,hkn,_,_,_,e2,d,rfl,_,_,rfl,hd,_,_,_,_,_,_,ldN2 e3 e4,fun h2 e7=>?_⟩
  obtain ⟨h3,hs3,k3,g3,z3⟩:=box_st (vs:=[.slice A3 (N.ins p (k' + 1) d).length K3,.slice A4 (N.outs p (k' + 1) d).length K4]) e7 rfl (flat2 rfl rfl)
  exact ⟨h3,hs3,fun _=>h1 _ (.inl ha) k3,fun h=>absurd (show (-1:Int)<0 by omega) h⟩
end
end Eva
end
end Go.Proofs.YteffnclboadalaaGreatDoor
