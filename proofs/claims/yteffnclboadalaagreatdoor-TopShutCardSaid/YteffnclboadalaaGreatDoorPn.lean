/-
A part of the proof of TopShut: lemmas that the last text joins. No condition.
-/
import Derived.Test.YteffnclboadalaaGreatDoorPm
import Derived.Test.YteffnclboadalaaGreatDoorPl
import Derived.Test.YteffnclboadalaaGreatDoorPj
import Derived.Test.YteffnclboadalaaGreatDoorPi
import Derived.Test.YteffnclboadalaaGreatDoorPf
import Derived.Test.YteffnclboadalaaGreatDoorPg
namespace Go.Proofs.YteffnclboadalaaGreatDoor
set_option linter.unusedVariables false
set_option linter.unusedSimpArgs false
set_option linter.unusedSectionVars false
set_option linter.unnecessarySimpa false
section
open Go Go.RowKit
namespace Eva
theorem part_set {xs:List Int} {ys:List Int} {i:Nat} {y:Int} (hy:ys[i]? = some y):(ys.take i ++ List.replicate (ys.length - i) 0).set i y=ys.take (i+1) ++ List.replicate (ys.length - (i+1)) 0:=by
 have hi:=(List.getElem?_eq_some_iff.1 hy).1
 rw [List.set_append_right _ _ (by rw [List.length_take]; omega),List.length_take,Nat.min_eq_left (by omega),Nat.sub_self,show ys.length - i=(ys.length - (i+1))+1 by omega,List.replicate_succ,List.set_cons_zero,List.take_add_one,hy,List.append_assoc]
 rfl
section
variable {h h0:AH} {Q:Value→AH→Prop} {Fa F Fo:Nat→Prop} {N:NetD} {p:List (List Int)} {g o C s t q mp bf:Nat} {cA:Option Addr} {cK:Nat} {D:Nat→Prop} {a l:Nat} {costs:List Int}
theorem cut_costs {h:AH} {E:Nat→Prop} {lo no:Nat} (bc:Bk h C (costs.map (Value.int .i64)) 2) (hC:C<h.next) (hE:E C) (hlo:lo+no≤costs.length) (K:Nat):Sa cI E h (some ⟨C,lo,none⟩) no K ((costs.drop lo).take no):=by
 refine ⟨by rw [List.length_take,List.length_drop]; omega,.inr ⟨_,_,rfl⟩,fun _=>⟨C,lo,rfl,hE,hC,fun k x hk=>⟨[.int .i64 x],fun j u hu=>?_,rfl⟩⟩⟩
 rw [List.getElem?_take] at hk
 split at hk
 ·rw [List.getElem?_drop] at hk
  match j,hu with
  | 0,hu=>
   obtain rfl:=Option.some.inj hu
   show ldC h C (lo+(k * 1+0))=_
   rw [ldC_bk bc,Nat.mul_one,Nat.add_zero,List.getElem?_map,hk]; rfl
 ·cases hk
theorem aNext (B:QA h0 N p g o C s t q mp bf cA cK D h) (G:GrA h0 Fa F g N) (O:OvA h0 Fo o N p) (bc:Bk h0 C (costs.map (Value.int .i64)) 2) (hC:C<h0.next) (hco:CostsOk N p costs) (hsz:N.size p<1000000) (ha:a<N.na) (hl:N.lev p s t (N.to a)=l)
  (hK:∀ (A4:Option Addr) (K4:Nat) (A5:Option Addr) (K5:Nat) (ol:List Nat) (pr:List Int) (D':Nat→Prop) (h':AH),NextR N p costs s t a ol pr→QA h0 N p g o C s t q mp bf cA cK D' h'→Sa cI (fun b=>b<h0.next∨h.next≤b∨D b) h' A4 ol.length K4 (ints ol)→Sa cI (fun b=>b<h0.next∨h.next≤b∨D b) h' A5 ol.length K5 pr→Mt (fun b=>b=mp) h h'→(∀ b,D b→D' b)→(∀ b,D' b→D b∨h.next≤b) →
   Q (.tuple #[.slice A4 ol.length K4,.slice A5 ol.length K5]) h') :
  WC Tryz.prog 98 [.pointer (some ⟨q,0,none⟩),.int .i64 l,.int .i64 a] h Q:=by
 have hok:=G.ok
 have hp:=O.hp
 have hna:=G.few.2
 have hto:=(NetD.to_lt hok ha).1
 have hlen:=hco.1
 obtain ⟨P1,P2,P3,P4,P5,P6,P7,P8,P9⟩:=B.pos
 have hp6:=hp.few
 refine w_ask_quest_next ⟨q,0,rfl,_,ldC_of B.blk rfl,aTo (G.nw B.nw) ha ⟨_,rfl,fun hl0=>?_,fun hl0=>?_⟩⟩
 ·have hl0':l=0:=by omega
  subst hl0'
  obtain ⟨bs,hbs⟩:∃ bs,N.from_ (N.to a)=bs:=⟨_,rfl⟩
  refine ⟨_,ldC_of B.blk rfl,aOuts (G.nw B.nw) hto fun A1 K1 h2 s2 k2=>⟨_,_,_,rfl,?_⟩⟩
  have hR:=nextR_arcs (costs:=costs) hok ha hl
  have hbn:bs.length≤1000:=by rw [← hbs]; exact Nat.le_trans (takeN_len _ _) hna
  rw [hbs] at s2 hR ⊢
  obtain ⟨ys,hys⟩:∃ ys,(bs.map fun b=>N.turn a b)=ys:=⟨_,rfl⟩
  have hyl:ys.length=bs.length:=by rw [← hys]; simp
  have z2':=k2.next
  refine ⟨by omega,fun h3 e3=>?_⟩
  obtain ⟨k3,g3,z3⟩:=news e3
  rw [rep_one] at g3
  refine ⟨fun m x h4=>∃ i:Nat,x=i∧i≤bs.length∧m=bs.length - i∧Bk h4 h2.next ((ys.take i ++ List.replicate (ys.length - i) 0).map (Value.int .i64)) 2∧Nw h2 h4∧h2.next<h4.next,bs.length,⟨0,rfl,Nat.zero_le _,rfl,by simpa [hyl] using g3,k3,by omega⟩,?_⟩
  rintro m x h4 ⟨i,rfl,hi,rfl,b4,k4,hlt4⟩
  have k04:=k2.trans k4
  refine ⟨fun hlt=>?_,fun hge=>?_⟩
  ·have hil:i<bs.length:=by omega
   obtain ⟨b2,o2,x5,hA1,-,-,hx5,r0⟩:=(s2.nw k4).int (k:=i) hil
   obtain ⟨b,hb⟩:∃ b,bs[i]? = some b:=⟨_,List.getElem?_eq_getElem (by omega)⟩
   have hxb:x5=(b:Int):=by simp [ints,hb] at hx5; exact hx5.symm
   subst hxb
   have hbn':=hR.lt b (List.mem_of_getElem? hb)
   have hy:ys[i]? = some (N.turn a b):=by rw [← hys,List.getElem?_map,hb]; rfl
   refine ⟨i,rfl,b2,o2,hA1,hil,_,r0,_,ldC_of (B.next k04).blk rfl,aTurn (G.nw (B.nw.trans k04)) ha hbn' fun h5 k5=>⟨_,rfl,hil,?_⟩⟩
   have b5:=k5.bk hlt4 b4
   have z5:=k5.next
   have z4:=k4.next
   obtain ⟨h6,s6,b6,z6,o6⟩:=ints_st b5 (k:=i) (by rw [List.length_append,List.length_take,List.length_replicate]; omega) (N.turn a b)
   rw [part_set (xs:=[]) hy] at b6
   exact ⟨h6,s6,_,wr_ok (by omega) (by omega),bs.length - (i+1),by omega,i+1,by omega,hil,rfl,b6,⟨by omega,fun b hb=>(o6 b (by omega)).trans ((k5.get b (by omega)).trans (k4.get b hb))⟩,by omega⟩
  ·obtain rfl:i=bs.length:=by omega
   rw [← hyl,Nat.sub_self,List.take_length,List.replicate_zero,List.append_nil] at b4
   have:=hK A1 K1 (some ⟨h2.next,0,none⟩) (cx bs.length) bs ys D h4 (by rw [← hys]; exact hR) (B.next k04) ((s2.nw k4).mono fun b hb _=>.inr (.inl hb)) (Sa.of_ints b4 hyl (.inr (.inl z2')) hlt4) (Mt.of k04) (fun b hb=>hb) (fun b hb=>.inl hb)
   exact this
 ·have hl1:1≤l:=by omega
  have hll:l≤p.length:=by rw [← hl]; exact levUp_le _ _ _ _ _
  have wl:IntKind.i64.wrap ((l:Int) - 1)=((l - 1:Nat):Int):=by rw [Int.natCast_sub hl1]; exact wr_ok (by omega) (by omega)
  obtain ⟨b3,o3,A3,n3,K3,row,hcA,-,-,hrow,r0,srow⟩:=B.cells.row (k:=l - 1) (by omega)
  obtain ⟨hrl,hrx⟩:=part_row hp hrow
  have hn3:n3=N.nv:=by rw [← srow.len]; exact hrl
  subst hn3
  obtain ⟨b4,o4,x9,hA3,-,-,hx9,r1⟩:=srow.int (k:=N.to a) hto
  obtain ⟨x9',hx9',x90,-⟩:=hrx (N.to a) hto
  rw [hx9] at hx9'
  obtain rfl:=Option.some.inj hx9'
  obtain ⟨c,rfl⟩:=Int.eq_ofNat_of_zero_le x90
  have hc:cel p l (N.to a)=c:=by rw [cel_row hrow hx9]; simp
  have hcm:c<most p l:=by rw [← hc]; exact cel_most hp hl1 hll hto
  have hlne:N.lev p s t (N.to a)≠0:=by omega
  obtain ⟨f,f1,f2⟩:=B.map_
  obtain ⟨ig,hig,hzg⟩:=infoG
  have hlook:=f1.look (e:=202) keyG hig hzg (by kernel_rfl) (l,c) true
  have nil:∀ (D':Nat→Prop) (h':AH),(a ∉ N.ins p l c∨N.outs p l c = [])→QA h0 N p g o C s t q mp bf cA cK D' h'→Mt (fun b=>b=mp) h h'→(∀ b,D b→D' b)→(∀ b,D' b→D b∨h.next≤b)→Q (.tuple #[.slice none 0 0,.slice none 0 0]) h':=fun D' h' hn hq hm hd1 hd2=>
   hK none 0 none 0 [] [] D' h' (nextR_none hlne (by rw [hl,hc]; exact hn)) hq ⟨rfl,.inl ⟨rfl,rfl,rfl⟩,fun h=>absurd h (Nat.lt_irrefl _)⟩ ⟨rfl,.inl ⟨rfl,rfl,rfl⟩,fun h=>absurd h (Nat.lt_irrefl _)⟩ hm hd1 hd2
  refine ⟨_,_,_,ldC_of B.blk rfl,_,wl,l - 1,rfl,b3,o3,hcA,by omega,_,_,_,r0,N.to a,rfl,b4,o4,hA3,hto,_,r1,_,ldC_of B.blk rfl,?_⟩
  obtain ⟨ni,hni⟩:∃ ni,(N.ins p l c).length=ni:=⟨_,rfl⟩
  obtain ⟨no,hno⟩:∃ no,(N.outs p l c).length=no:=⟨_,rfl⟩
  have hni2:ni≤1000:=by rw [← hni]; exact Nat.le_trans (takeN_len _ _) hna
  have hno2:no≤1000:=by rw [← hno]; exact Nat.le_trans (takeN_len _ _) hna
  have hse:=NetD.start_end (N:=N) (p:=p) (k:=l) hl1 hll hcm
  unfold NetD.sz at hse
  rw [hni,hno] at hse
  have main:∀ (h9:AH) (D':Nat→Prop) (A6 A7:Option Addr) (K6 K7:Nat),QA h0 N p g o C s t q mp bf cA cK D' h9→Mt (fun b=>b=mp) h h9→(∀ b,D b→D' b)→(∀ b,D' b→D b∨h.next≤b)→h.next<h9.next→Bk h9 h.next [.slice A6 ni K6,.slice A7 no K7] 202→Sa cI D' h9 A7 no K7 (ints (N.outs p l c))→∀ h10,a∈N.ins p l c→N.outs p l c≠[]→Nw h9 h10 →
    ∃ (A:Option Addr) (n:Nat) (K:Nat),ldC h10 h.next 1=some (.slice A n K)∧∃ x12:Int,IntKind.i64.wrap (((N.start p l c+(N.ins p l c).idxOf a * no:Nat):Int)+(n:Int))=x12∧∃ (A8:Option Addr) (n8:Nat) (K8:Nat),ldC h10 q (0+2)=some (.slice A8 n8 K8)∧(((n8:Int):Int)<x12→Q (.tuple #[.slice none 0 0,.slice none 0 0]) h10)∧(¬ (((n8:Int):Int)<x12)→∃ (A9:Option Addr) (n9:Nat) (K9:Nat),ldC h10 h.next 1=some (.slice A9 n9 K9)∧∃ (A10:Option Addr) (n10:Nat) (K10:Nat),ldC h10 q (0+2)=some (.slice A10 n10 K10)∧∃ (A11:Option Addr) (n11:Nat) (K11:Nat),ldC h10 h.next 1=some (.slice A11 n11 K11)∧∃ x13:Int,IntKind.i64.wrap (((N.start p l c+(N.ins p l c).idxOf a * no:Nat):Int)+(n11:Int))=x13∧∃ k4:Nat,((N.start p l c+(N.ins p l c).idxOf a * no:Nat):Int)=(k4:Int)∧∃ k5:Nat,x13=(k5:Int)∧∃ (A12:Option Addr) (n12 K12:Nat),vSliceS Tryz.prog 2 A10 n10 K10 (some k4) (some k5) none=some (.slice A12 n12 K12)∧EqOk (.slice A11 n11 K11)∧EqOk (.slice A10 n10 K10)∧Q (.tuple #[.slice A9 n9 K9,.slice A12 n12 K12]) h10):=by
   intro h9 D' A6 A7 K6 K7 B9 m9 hd1 hd2 hlt9 gb so h10 hin hne k10
   have hidx:=List.idxOf_lt_length_of_mem hin
   have hmul:((N.ins p l c).idxOf a+1) * no≤ni * no:=Nat.mul_le_mul_right _ (by rw [← hni]; exact hidx)
   rw [Nat.succ_mul] at hmul
   have hpos:0<no:=by rw [← hno]; cases hx:N.outs p l c with | nil=>exact absurd hx hne | cons x l=>simp
   obtain ⟨lo,hlo⟩:∃ lo,N.start p l c+(N.ins p l c).idxOf a * no=lo:=⟨_,rfl⟩
   rw [hlo]
   have wlo:IntKind.i64.wrap ((lo:Int)+(no:Int))=((lo+no:Nat):Int):=by rw [Int.natCast_add]; exact wr_ok (by omega) (by omega)
   have B10:=B9.next k10
   have gb10:=k10.bk hlt9 gb
   have hsl:=sl_even (P:=Tryz.prog) (e:=2) (C:=C) (n:=N.size p) (lo:=lo) (hi:=lo+no) sz64 (by omega) (by omega) (.inl (by omega))
   rw [Nat.add_sub_cancel_left] at hsl
   refine ⟨_,_,_,ldC_of gb10 rfl,_,wlo,_,_,_,ldC_of B10.blk rfl,fun h=>absurd h (by omega),fun _=>⟨_,_,_,ldC_of gb10 rfl,_,_,_,ldC_of B10.blk rfl,_,_,_,ldC_of gb10 rfl,_,wlo,lo,rfl,lo+no,rfl,_,_,_,hsl,so.eqok,rfl,?_⟩⟩
   have hR:=nextR_leaps hok hp hco ha hl (by omega) hc hin
   rw [hno,hlo] at hR
   have hE:∀ b,D' b→(b<h0.next∨h.next≤b∨D b):=fun b hb=>(hd2 b hb).elim (fun h=>.inr (.inr h)) (fun h=>.inr (.inl h))
   have m10:=m9.nw k10
   have:=hK A7 K7 (some ⟨C,lo,none⟩) (cx (N.size p - lo)) (N.outs p l c) _ D' h10 hR B10 (by rw [hno]; exact (so.nw k10).mono fun b hb _=>hE b hb) (by rw [hno]; exact cut_costs (B10.nw.bk hC bc) (by have:=B10.nw.next; omega) (.inl hC) (by omega) _) m10 hd1 hd2
   rw [hno] at this
   exact this
  cases hf:f (l,c) with
  | some v=>
   obtain ⟨A6,K6,A7,K7,rfl,s6,s7⟩:=f2 l c v hf
   rw [hni] at s6
   rw [hno] at s7
   rw [hf,hni,hno] at hlook
   refine ⟨_,_,_,_,_,_,_,hlook,fun _ h7 e7=>?_,fun h=>Bool.noConfusion h⟩
   obtain ⟨h8,s8,k8,g8,z8⟩:=box_st (vs:=[.slice A6 ni K6,.slice A7 no K7]) e7 rfl (flat2 rfl rfl)
   have B8:=B.next k8
   refine ⟨h8,s8,_,_,_,ldC_of g8 rfl,aPlace a (s6.nw k8) (takeN_asc _ _) (by omega) ⟨_,rfl,_,ldC_of B8.blk rfl,oAtF (O.nw B8.nw) hl1 hll hcm (fun h10 hn k10=>⟨_,rfl,fun _=>nil D h10 hn (B8.next k10) (Mt.of (k8.trans k10)) (fun b hb=>hb) (fun b hb=>.inl hb),fun _=>⟨fun _=>nil D h10 hn (B8.next k10) (Mt.of (k8.trans k10)) (fun b hb=>hb) (fun b hb=>.inl hb),fun h=>absurd (show (-1:Int)<0 by omega) h⟩⟩) (fun h10 hin hne k10=>⟨_,rfl,fun h=>absurd h (by have:=placeI_nn.2 hin; omega),fun _=>⟨fun h=>absurd h (by omega),fun _=>?_⟩⟩)⟩⟩
   have:=main h8 D A6 A7 K6 K7 B8 (Mt.of k8) (fun b hb=>hb) (fun b hb=>.inl hb) (by omega) g8 (s7.nw k8) h10 hin hne k10
   rw [hno]
   exact this
  | none=>
   rw [hf] at hlook
   refine ⟨none,0,0,none,0,0,_,hlook,fun h=>Bool.noConfusion h,fun _ h11 e11=>?_⟩
   obtain ⟨h12,s12,k12,g12,z12⟩:=box_st (vs:=[.slice none 0 0,.slice none 0 0]) e11 rfl (flat2 rfl rfl)
   have B12:=B.next k12
   refine ⟨h12,s12,_,ldC_of B12.blk rfl,oGate (O.nw B12.nw) hl1 hll hcm fun A6 K6 A7 K7 h13 s6 s7 k13=>⟨_,_,_,_,_,_,rfl,?_⟩⟩
   rw [hni] at s6 ⊢
   rw [hno] at s7 ⊢
   have z13:=k13.next
   obtain ⟨h14,s14,b14,z14,o14⟩:=st_all (vs:=[.slice A6 ni K6,.slice A7 no K7]) (k13.bk (by omega) g12) rfl (flat2 rfl rfl)
   have k14:Nw h h14:=⟨by omega,fun b hb=>(o14 b (by omega)).trans ((k13.get b (by omega)).trans (k12.get b hb))⟩
   have B14:=B.next k14
   obtain ⟨h15,y1,y2,y3,y4⟩:=(f1.keep (h':=h14) (k14.get _ P8)).put (P:=Tryz.prog) (e:=202) keyG (l,c) (.agg #[.slice A6 ni K6,.slice A7 no K7])
   have m15:Mt (fun b=>b=mp) h14 h15:=⟨by omega,fun b _ hb=>y4 b hb⟩
   have s6':Sa cI (fun b=>h12.next≤b∧b<h13.next) h15 A6 ni K6 (ints (N.ins p l c)):=((s6.mono fun b hb hlt=>⟨hb,hlt⟩).keep (h':=h14) (fun b hb _=>o14 b (by omega)) (by omega)).off m15 fun b hb e=>by omega
   have s7':Sa cI (fun b=>h12.next≤b∧b<h13.next) h15 A7 no K7 (ints (N.outs p l c)):=((s7.mono fun b hb hlt=>⟨hb,hlt⟩).keep (h':=h14) (fun b hb _=>o14 b (by omega)) (by omega)).off m15 fun b hb e=>by omega
   have B15:QA h0 N p g o C s t q mp bf cA cK (fun b=>D b∨(h12.next≤b∧b<h13.next)) h15:=by
    refine ⟨m15.is_nw B14.nw fun b hb=>by omega,m15.bk (by omega) P4 B14.blk,(B14.cells.off m15 fun b hb e=>(B.dlo b hb).2.2.2.1 e).mono fun b hb _=>.inl hb,⟨_,y2,fun l' c' v hv=>?_⟩,fun b hb=>?_,by omega⟩
    ·by_cases e:(l',c')=(l,c)
     ·rw [if_pos e] at hv
      obtain rfl:=Option.some.inj hv
      injection e with e1 e2
      subst e1 e2
      exact ⟨A6,K6,A7,K7,by rw [hni,hno],by rw [hni]; exact s6'.mono fun b hb _=>.inr hb,by rw [hno]; exact s7'.mono fun b hb _=>.inr hb⟩
     ·rw [if_neg e] at hv
      obtain ⟨A,K,A',L,e',x1,x2⟩:=f2 l' c' v hv
      exact ⟨A,K,A',L,e',(((x1.nw k14).off m15 fun b hb e=>(B.dlo b hb).2.2.2.1 e)).mono fun b hb _=>.inl hb,(((x2.nw k14).off m15 fun b hb e=>(B.dlo b hb).2.2.2.1 e)).mono fun b hb _=>.inl hb⟩
    ·rcases hb with hb | hb
     ·have:=B.dlo b hb; omega
     ·omega
   have b15:=m15.bk (by omega) (by omega) b14
   have m015:Mt (fun b=>b=mp) h h15:=(Mt.of k14).then m15
   have hd1:∀ b,D b→(D b∨(h12.next≤b∧b<h13.next)):=fun b hb=>.inl hb
   have hd2:∀ b,(D b∨(h12.next≤b∧b<h13.next))→D b∨h.next≤b:=fun b hb=>hb.imp id fun h=>by omega
   refine ⟨h14,s14,_,ldC_of B14.blk rfl,_,_,_,_,_,_,ldN_bk b14 (by simp),h15,y1,_,_,_,ldC_of b15 rfl,aPlace a s6' (takeN_asc _ _) (by omega) ⟨_,rfl,_,ldC_of B15.blk rfl,oAtF (O.nw B15.nw) hl1 hll hcm (fun h10 hn k10=>⟨_,rfl,fun _=>nil _ h10 hn (B15.next k10) (m015.nw k10) hd1 hd2,fun _=>⟨fun _=>nil _ h10 hn (B15.next k10) (m015.nw k10) hd1 hd2,fun h=>absurd (show (-1:Int)<0 by omega) h⟩⟩) (fun h10 hin hne k10=>⟨_,rfl,fun h=>absurd h (by have:=placeI_nn.2 hin; omega),fun _=>⟨fun h=>absurd h (by omega),fun _=>?_⟩⟩)⟩⟩
   have:=main h15 _ A6 A7 K6 K7 B15 m015 hd1 hd2 (by omega) b15 (s7'.mono fun b hb _=>.inr hb) h10 hin hne k10
   rw [hno]
   exact this
end
end Eva
end
section
open Go Go.RowKit
namespace Eva
section
variable {h h':AH} {Fa F Fp:Nat→Prop} {g:Nat} {N:NetD} {p:List (List Int)} {Q:Value→AH→Prop} {A:Option Addr} {n K:Nat}
def arcFs (f:Nat→Nat) (i:Nat):List Int:=(List.range i).map fun a=>((f a:Nat):Int)
theorem arcFs_succ (f:Nat→Nat) (i:Nat):arcFs f (i+1)=arcFs f i ++ [((f i:Nat):Int)]:=by
 unfold arcFs
 rw [List.range_succ,List.map_append]; rfl
theorem startsL_len (N:NetD) (p:List (List Int)) (k:Nat):(N.startsL p k).length=most p k:=by simp [NetD.startsL]
theorem aOverNew (G:GrA h Fa F g N) (hp:PartOk N.nv p) (hs:Sa cRows Fp h A n K p) (hfew:N.size p≤10000000)
  (hK:∀ o h',OvA h' (fun b=>h.next≤b) o N p→Nw h h'→Q (.tuple #[.pointer (some ⟨o,0,none⟩),.nilIface]) h'):WC Tryz.prog 146 [.pointer (some ⟨g,0,none⟩),.agg #[.slice A n K]] h Q:=by
 have hn:=hs.len
 have h6:=hp.few
 have hna:=G.few.2
 have hnv:=G.few.1
 refine w_over_New fun h1 e1=>?_
 obtain ⟨k1,g1,z1⟩:=news e1
 have box:∀ {h'},Nw h1 h'→ldN h' h.next 0 1=some [.slice A n K]:=fun a=>ldN1 (ldC_of (a.bk (by omega) g1) rfl)
 refine ⟨A,n,K,box (Nw.refl _),aVerts (G.nw k1) ⟨_,rfl,box (Nw.refl _),eqok1 hs.eqok,aPartCheck (hs.nw k1) hp fun h3 k3=>⟨none,rfl,fun _=>⟨A,n,K,box k3,A,n,K,box k3,?_⟩,fun t u h=>by cases h⟩⟩⟩
 refine oTwin (hs.nw (k1.trans k3)) (by omega) (fun x hx=>by rw [hp.rows x hx]; omega) fun A5 K5 h4 s4 k4=>⟨_,_,_,rfl,box (k3.trans k4),eqok1 hs.eqok,?_⟩
 have k14:=k3.trans k4
 refine aGateOf (G.nw (k1.trans k14)) hp (hs.nw (k1.trans k14)) fun A6 n6 K6 h5 s5 k5=>⟨_,_,_,rfl,fun h6' e6=>?_⟩
 obtain ⟨k6,g6,z6⟩:=news e6
 have k16:=(k14.trans k5).trans k6
 have z3:=k3.next
 have z4:=k4.next
 have z5:=k5.next
 have hn6:n6=p.length:=by have:=s5.len; simpa using this.symm
 refine aArcs (G.nw (k1.trans k16)) ⟨_,rfl,fun m x h8=>∃ (i:Nat) (A1:Option Addr) (K1:Nat) (A2:Option Addr) (K2:Nat),x=i∧i≤N.na∧m=N.na - i∧Bk h8 h5.next [.slice A5 n K5,.slice A1 i K1,.slice A2 i K2,.slice A6 n6 K6,.slice none 0 0,.int .i64 0] 195 ∧
  OwnP cI h8 (ownB A1) 3 A1 i K1 (arcFs N.fr i)∧OwnP cI h8 (ownB A2) 3 A2 i K2 (arcFs N.to i)∧(∀ z,ownB A1 z→h6'.next≤z)∧(∀ z,ownB A2 z→h6'.next≤z)∧(∀ z,ownB A1 z→¬ ownB A2 z)∧Mt (fun z=>z=h5.next) h6' h8,N.na,⟨0,none,0,none,0,rfl,Nat.zero_le _,rfl,g6,OwnP.nil _ _ _ _,OwnP.nil _ _ _ _,fun z hz=>hz.elim,fun z hz=>hz.elim,fun z hz=>hz.elim,Mt.refl _ _⟩,?_⟩
 rintro m x h8 ⟨i,A1,K1,A2,K2,rfl,hi,hm,b8,o1,o2,lo1,lo2,dj,m8⟩
 have z8:=m8.next
 have G8:GrA h8 Fa F g N:=(G.nw (k1.trans (k14.trans k5))).nw ((Mt.of k6).then m8 |>.is_nw (Nw.refl _) fun z hz=>by omega)
 refine ⟨fun hlt=>?_,fun hge=>?_⟩
 ·have wi:IntKind.i64.wrap ((i:Int)+1)=((i+1:Nat):Int):=by rw [Int.natCast_succ]; exact wr_ok (by omega) (by omega)
  refine ⟨_,_,_,ldC_of b8 rfl,aFrom G8 (by omega) ⟨_,rfl,ldC_of b8 rfl,o1.spot,fun h10 e10=>?_⟩⟩
  obtain ⟨k10,g10,z10⟩:=news e10
  obtain ⟨A1',K1',h11,y1,y2,y3,y4⟩:=app_row free_cI tyI8 (o1.nw k10) (Sz.one (r:=cI) (L:=2) (F:=fun z=>z=h8.next) g10 rfl (by omega) rfl rfl) (by omega) (by omega)
  have z11:=y3.next
  have b11:=y3.bk (by omega) (fun ho=>by have:=lo1 _ ho; omega) (k10.bk (by omega) b8)
  obtain ⟨h12,s12,b12,z12,q12⟩:=st_one (v:=.slice A1' (i+1) K1') b11 (o:=1) (by simp) rfl
  have m12:Mt (fun z=>z=h5.next) h11 h12:=⟨by omega,fun z _ hn=>q12 z hn⟩
  have lo1':∀ z,ownB A1' z→h6'.next≤z:=fun z hz=>(y4 z hz).elim (lo1 z) (fun h=>by omega)
  have o1':=y2.off m12 fun z hz _ e=>by have:=lo1' z hz; omega
  have o2':=((o2.nw k10).off y3 fun z hz _ ho=>dj z ho hz).off m12 fun z hz _ e=>by have:=lo2 z hz; omega
  have m812:Mt (fun z=>z=h5.next) h6' h12:=((m8.nw k10).trans y3 fun z hz hlt=>by have:=lo1 z hz; omega).then m12
  have G12:GrA h12 Fa F g N:=(G.nw (k1.trans (k14.trans k5))).nw ((Mt.of k6).then m812 |>.is_nw (Nw.refl _) fun z hz=>by omega)
  refine ⟨A1',i+1,K1',h11,y1,h12,s12,_,_,_,ldC_of b12 rfl,aTo G12 (by omega) ⟨_,rfl,ldC_of b12 rfl,o2'.spot,fun h14 e14=>?_⟩⟩
  obtain ⟨k14',g14,z14⟩:=news e14
  obtain ⟨A2',K2',h15,x1,x2,x3,x4⟩:=app_row free_cI tyI8 (o2'.nw k14') (Sz.one (r:=cI) (L:=2) (F:=fun z=>z=h12.next) g14 rfl (by omega) rfl rfl) (by omega) (by omega)
  have z15:=x3.next
  have b15:=x3.bk (by omega) (fun ho=>by have:=lo2 _ ho; omega) (k14'.bk (by omega) b12)
  obtain ⟨h16,s16,b16,z16,q16⟩:=st_one (v:=.slice A2' (i+1) K2') b15 (o:=2) (by simp) rfl
  have m16:Mt (fun z=>z=h5.next) h15 h16:=⟨by omega,fun z _ hn=>q16 z hn⟩
  have dj':∀ z,ownB A1' z→¬ ownB A2 z:=fun z hz ho=>(y4 z hz).elim (fun h=>dj z h ho) (fun h=>by have:=o2.own ho; omega)
  refine ⟨A2',i+1,K2',h15,x1,h16,s16,_,wi,N.na - (i+1),by omega,i+1,A1',K1',A2',K2',rfl,by omega,rfl,b16,?_,?_,lo1',fun z hz=>(x4 z hz).elim (lo2 z) (fun h=>by omega),fun z hz ho=>(x4 z ho).elim (fun h=>dj' z hz h) (fun h=>by have:=o1'.own hz; omega),?_⟩
  ·rw [arcFs_succ]
   exact ((o1'.nw k14').off x3 fun z hz _ ho=>dj' z hz ho).off m16 fun z hz _ e=>by have:=lo1' z hz; omega
  ·rw [arcFs_succ]
   exact x2.off m16 fun z hz _ e=>(x4 z hz).elim (fun h=>by have:=lo2 z h; omega) (fun h=>by omega)
  ·exact ((m812.nw k14').trans x3 fun z hz hlt=>by have:=lo2 z hz; omega).then m16
 ·obtain rfl:i=N.na:=by omega
  refine ⟨A6,n6,K6,ldC_of b8 rfl,fun m x h17=>∃ (k:Nat) (D:Nat→Prop) (A7:Option Addr) (K7:Nat),x=k∧k≤n6∧m=n6 - k∧Bk h17 h5.next [.slice A5 n K5,.slice A1 N.na K1,.slice A2 N.na K2,.slice A6 n6 K6,.slice A7 k K7,.int .i64 ((sumN (N.lsz p) k:Nat):Int)] 195 ∧
   OwnP cRows h17 D 43 A7 k K7 ((List.range k).map fun j=>N.startsL p (j+1))∧(∀ z,D z→h8.next≤z∧z<h17.next)∧Mt (fun z=>z=h5.next) h8 h17,n6,⟨0,fun _=>False,none,0,rfl,Nat.zero_le _,rfl,by simpa [sumN] using b8,OwnP.nil _ _ _ _,fun z hz=>hz.elim,Mt.refl _ _⟩,?_⟩
  rintro m x h17 ⟨k,D,A7,K7,rfl,hk,hm,b17,o7,hD,m17⟩
  have z17:=m17.next
  have m617:=m8.then m17
  have s617:Sa (Rc.slice Rc.gate) (fun b=>h4.next≤b∧b<h5.next) h17 A6 n6 K6 ((List.range p.length).map fun j=>N.gatesL p (j+1)):=((s5.mono fun z hz hlt=>⟨hz,hlt⟩).nw k6).off m617 fun z hz e=>by omega
  refine ⟨fun hlt=>?_,fun hge=>?_⟩
  ·have hkl:k<p.length:=by omega
   obtain ⟨b1,p1,A12,n12,K12,x,hA,-,hb1,hx,e1',s12⟩:=s617.row (k:=k) (by omega)
   have hx2:x=N.gatesL p (k+1):=by simp [hkl] at hx; exact hx.symm
   subst hx2
   have hn12:most p (k+1)=n12:=by have:=s12.len; simpa [NetD.gatesL] using this
   have hmf:=most_le hp (k:=k+1) (by omega) (by omega)
   have wk:IntKind.i64.wrap ((k:Int)+1)=((k+1:Nat):Int):=by rw [Int.natCast_succ]; exact wr_ok (by omega) (by omega)
   refine ⟨k,rfl,b1,p1,hA,by omega,A12,n12,K12,e1',by omega,fun h18 e18=>?_⟩
   obtain ⟨k18,g18,z18⟩:=news e18
   rw [rep_one] at g18
   obtain ⟨ys,hys⟩:∃ ys,N.startsL p (k+1)=ys:=⟨_,rfl⟩
   have hyl:ys.length=n12:=by rw [← hys,startsL_len,hn12]
   have hst0:N.start p (k+1) 0=sumN (N.lsz p) k:=by simp [NetD.start,sumN]
   refine ⟨fun m x h19=>∃ c:Nat,x=c∧c≤n12∧m=n12 - c∧Bk h19 h17.next ((ys.take c ++ List.replicate (ys.length - c) 0).map (Value.int .i64)) 3∧Bk h19 h5.next [.slice A5 n K5,.slice A1 N.na K1,.slice A2 N.na K2,.slice A6 n6 K6,.slice A7 k K7,.int .i64 ((N.start p (k+1) c:Nat):Int)] 195∧Mt (fun z=>z=h5.next) h17 h19∧h17.next<h19.next,n12,⟨0,rfl,Nat.zero_le _,rfl,?_,by rw [hst0]; exact k18.bk (by omega) b17,Mt.of k18,by omega⟩,?_⟩
   ·rw [List.take_zero,List.nil_append,hyl,Nat.sub_zero,List.map_replicate]
    exact g18
   rintro m' x h19 ⟨c,rfl,hc,hm',b19,a19,m19,lt19⟩
   have z19:=m19.next
   refine ⟨fun hlt'=>?_,fun hge'=>?_⟩
   ·have hc':c<most p (k+1):=by omega
    obtain ⟨b2,p2,A13,n13,K13,A14,n14,K14,u,v,hA12,hF2,hb2,hy,e2,e3,s13,s14⟩:=(s12.off m19 fun z hz e=>by omega).gate (k:=c) (by omega)
    have hy2:(u,v)=(ints (N.ins p (k+1) c),ints (N.outs p (k+1) c)):=by simp [NetD.gatesL,hc'] at hy; rw [← hy.1,← hy.2]
    injection hy2 with q1 q2
    subst q1 q2
    have q3:(N.ins p (k+1) c).length=n13:=by simpa [ints] using s13.len
    have q4:(N.outs p (k+1) c).length=n14:=by simpa [ints] using s14.len
    refine ⟨c,rfl,b2,p2,hA12,by omega,A13,n13,K13,A14,n14,K14,ldN2 e2 e3,fun h20 e20=>?_⟩
    obtain ⟨h21,s21,k21,g21,z21⟩:=box_st (vs:=[.slice A13 n13 K13,.slice A14 n14 K14]) e20 rfl (flat2 rfl rfl)
    have a21:=k21.bk (by omega) a19
    have b21:=k21.bk (by omega) b19
    obtain ⟨h22,s22,b22,z22,q22⟩:=st_one (v:=.int .i64 ((N.start p (k+1) c:Nat):Int)) b21 (o:=0+c) (by simp; omega) rfl
    have a22:=(q22 _ (by omega)).trans a21
    have g22:=(q22 _ (by omega)).trans g21
    have hse:=NetD.start_end (N:=N) (k:=k+1) (c:=c) (by omega) (by omega) hc'
    have hsz:N.sz p (k+1) c=n13 * n14:=by unfold NetD.sz; rw [q3,q4]
    rw [hsz] at hse
    obtain ⟨t,ht⟩:∃ t,n13 * n14=t:=⟨_,rfl⟩
    rw [ht] at hse hsz
    have w1:IntKind.i64.wrap ((n13:Int) * (n14:Int))=(t:Int):=by rw [← Int.natCast_mul,ht]; exact wr_ok (by omega) (by omega)
    have hnx:N.start p (k+1) (c+1)=N.start p (k+1) c+t:=by rw [NetD.start_cell,hsz]
    have w2:IntKind.i64.wrap (((N.start p (k+1) c:Nat):Int)+(t:Int))=((N.start p (k+1) (c+1):Nat):Int):=by rw [hnx,Int.natCast_add]; exact wr_ok (by omega) (by omega)
    have wc:IntKind.i64.wrap ((c:Int)+1)=((c+1:Nat):Int):=by rw [Int.natCast_succ]; exact wr_ok (by omega) (by omega)
    obtain ⟨h23,s23,b23,z23,q23⟩:=st_one (v:=.int .i64 ((N.start p (k+1) (c+1):Nat):Int)) a22 (o:=5) (by simp) rfl
    refine ⟨h21,s21,_,ldC_of a21 rfl,by omega,h22,s22,_,ldC_of a22 rfl,_,_,_,ldC_of g22 rfl,_,_,_,ldC_of g22 rfl,_,w1,_,w2,h23,s23,_,wc,n12 - (c+1),by omega,c+1,rfl,by omega,rfl,?_,b23,?_,by omega⟩
    ·rw [Nat.zero_add,← List.map_set] at b22
     have hyc:ys[c]? = some ((N.start p (k+1) c:Nat):Int):=by rw [← hys]; simp [NetD.startsL,hc']
     have hps:=part_set (xs:=ys) hyc
     rw [hps] at b22
     exact (q23 _ (by omega)).trans b22
    ·exact ⟨by omega,fun z hz hn=>(q23 z hn).trans ((q22 z (by omega)).trans ((k21.get z (by omega)).trans (m19.get z hz hn)))⟩
   ·obtain rfl:c=n12:=by omega
    rw [List.take_of_length_le (by omega),hyl,Nat.sub_self,List.replicate_zero,List.append_nil] at b19
    refine ⟨_,_,_,ldC_of a19 rfl,fun h24 e24=>?_⟩
    obtain ⟨k24,g24,z24⟩:=news e24
    have o19:=(o7.off m19 fun z hz _ e=>by have:=(hD z hz).1; omega).nw k24
    have hz:Sz cRows (fun z=>z=h17.next∨z=h19.next) h24 (some ⟨h19.next,0,none⟩) 1 2 [ys]:=Sz.one g24 (.inr rfl) (by omega) rfl ⟨some ⟨h17.next,0,none⟩,c,cx c,rfl,Sa.of_ints (k24.bk (by omega) b19) hyl (.inl rfl) (by omega)⟩
    obtain ⟨A18,K18,h25,y1,y2,y3,y4⟩:=app_rows (r:=cRows) (bytes:=24) tyIs o19 hz (fun b hb ho=>by have:=(hD b (o7.lt ho).1).2; omega) (by omega) (by omega)
    have z25:=y3.next
    have nO:¬ ownB A7 h5.next:=fun ho=>by have:=(hD _ (o7.lt ho).1).1; omega
    have b25:=y3.bk (by omega) nO (k24.bk (by omega) a19)
    obtain ⟨h26,s26,b26,z26,q26⟩:=st_one (v:=.slice A18 (k+1) K18) b25 (o:=4) (by simp) rfl
    have hse:N.start p (k+1) c=sumN (N.lsz p) (k+1):=by
     rw [← hn12]
     unfold NetD.start
     rw [Nat.add_sub_cancel]
     rfl
    refine ⟨A18,k+1,K18,h25,y1,h26,s26,_,wk,n6 - (k+1),by omega,k+1,fun z=>(D z∨(z=h17.next∨z=h19.next)∨z=h24.next)∧z<h25.next,A18,K18,rfl,by omega,rfl,by rw [← hse]; exact b26,?_,fun z hz=>?_,?_⟩
    ·rw [List.range_succ,List.map_append,List.map_singleton,hys]
     refine (y2.mono (D':=fun z=>(D z∨(z=h17.next∨z=h19.next)∨z=h24.next)∧z<h25.next) fun z hz hlt=>⟨hz,hlt⟩).keep (fun z hz _=>q26 z ?_) (by omega)
     rcases hz.1 with h9 | h9 | h9
     ·have:=(hD z h9).1; omega
     ·omega
     ·omega
    ·rcases hz.1 with h9 | h9 | h9
     ·have:=hD z h9; omega
     ·omega
     ·omega
    ·exact ((m17.then m19).nw k24).trans y3 (fun z hz hlt=>by have:=(hD z (o7.lt hz).1).1; omega) |>.then ⟨by omega,fun z _ hn=>q26 z hn⟩
  ·obtain rfl:k=n6:=by omega
   subst hn6
   have k117:Nw h1 h17:=((Mt.of k6).then m617).is_nw (k14.trans k5) fun z hz=>by omega
   have kk:=k1.trans k117
   have z117:=k117.next
   refine hK h5.next h17 ⟨⟨by omega,by omega⟩,⟨_,_,_,ldC_of b17 rfl,?_⟩,⟨_,_,_,ldC_of b17 rfl,?_⟩,⟨_,_,_,ldC_of b17 rfl,?_⟩,⟨_,_,_,ldC_of b17 rfl,s617.mono fun z hz _=>by omega⟩,⟨_,_,_,ldC_of b17 rfl,o7.sa.mono fun z hz _=>by have:=(hD z hz).1; omega⟩,ldC_of b17 rfl,hp,hfew,G.ok,⟨hnv,hna⟩⟩ kk
   ·exact ((((s4.mono fun z hz hlt=>(⟨hz,hlt⟩:h3.next≤z∧z<h4.next)).nw (k5.trans k6)).off m617 fun z hz e=>by omega)).mono fun z hz _=>by omega
   ·exact (o1.sa.off m17 fun z hz e=>by have:=lo1 z hz; omega).mono fun z hz _=>by have:=lo1 z hz; omega
   ·exact (o2.sa.off m17 fun z hz e=>by have:=lo2 z hz; omega).mono fun z hz _=>by have:=lo2 z hz; omega
end
end Eva
end
section
open Go Go.RowKit
theorem sumN_add (f g:Nat→Nat):∀ n,sumN (fun i=>f i+g i) n=sumN f n+sumN g n
 | 0=>rfl
 | n+1=>by
  show sumN (fun i=>f i+g i) n+(f n+g n)=sumN f n+f n+(sumN g n+g n)
  rw [sumN_add f g n]; omega
theorem sumN_lone {f:Nat→Bool} {c0:Nat} (h:∀ c,f c=true→c=c0):∀ n,sumN (fun c=>if f c then 1 else 0) n≤if c0<n then 1 else 0
 | 0=>by simp [sumN]
 | n+1=>by
  have ih:=sumN_lone h n
  show sumN (fun c=>if f c then 1 else 0) n+(if f n then 1 else 0)≤_
  by_cases e:f n=true
  ·have:=h n e
   subst this
   rw [if_neg (Nat.lt_irrefl _)] at ih
   simp [e]
   omega
  ·simp [e]
   by_cases h1:c0<n
   ·rw [if_pos h1] at ih
    rw [if_pos (by omega)]
    simpa using ih
   ·rw [if_neg h1] at ih
    have:sumN (fun c=>if f c=true then 1 else 0) n≤0:=ih
    split <;> omega
theorem sumN_take {f:Nat→Nat→Bool} {q:Nat→Nat} (h:∀ c a,f c a=true→c=q a) (m:Nat):∀ n,sumN (fun c=>(takeN (f c) n).length) m≤n
 | 0=>by
  have:∀ m,sumN (fun c=>(takeN (f c) 0).length) m=0:=fun m=>by
   induction m with
   | zero=>rfl
   | succ m ih=>show sumN _ m+(takeN (f m) 0).length=0; rw [ih]; rfl
  rw [this]; exact Nat.le_refl _
 | n+1=>by
  have e:(fun c=>(takeN (f c) (n+1)).length)=fun c=>(takeN (f c) n).length+if f c n then 1 else 0:=by
   funext c
   rw [takeN_succ]
   split <;> simp
  rw [e,sumN_add]
  have h1:=sumN_take h m n
  have h2:=sumN_lone (f:=fun c=>f c n) (fun c=>h c n) m
  have h3:(if q n<m then 1 else 0)≤1:=by split <;> omega
  omega
theorem size_few {N:NetD} {p:List (List Int)} (hna:N.na≤300) (hp:p.length≤6):N.size p<1000000:=by
 have h1:∀ j,N.lsz p j≤90000:=fun j=>by
  unfold NetD.lsz
  have h2:∀ m,sumN (N.sz p (j+1)) m≤sumN (fun c=>(N.ins p (j+1) c).length) m * 300:=fun m=>by
   induction m with
   | zero=>simp [sumN]
   | succ m ih=>
    show sumN (N.sz p (j+1)) m+N.sz p (j+1) m≤(sumN _ m+(N.ins p (j+1) m).length) * 300
    rw [Nat.add_mul]
    have:N.sz p (j+1) m≤(N.ins p (j+1) m).length * 300:=Nat.mul_le_mul_left _ (Nat.le_trans (takeN_len _ _) hna)
    omega
  have h3:sumN (fun c=>(N.ins p (j+1) c).length) (most p (j+1))≤N.na:=sumN_take (f:=fun c a=>N.insB p (j+1) c a) (q:=fun a=>cel p (j+1) (N.to a)) (fun c a h=>by simp [NetD.insB] at h; exact h.1.symm) _ _
  have h5:=h2 (most p (j+1))
  have h6:sumN (fun c=>(N.ins p (j+1) c).length) (most p (j+1)) * 300≤300 * 300:=Nat.mul_le_mul_right _ (Nat.le_trans h3 hna)
  exact Nat.le_trans h5 h6
 have h4:=sumN_le h1 p.length
 unfold NetD.size
 have:p.length * (90000)≤6 * (90000):=Nat.mul_le_mul_right _ hp
 omega
namespace Eva
section
variable {h h':AH} {F G:Nat→Prop} {Q:Value→AH→Prop} {A Av Aa At Ap:Option Addr} {n K nv Kv na Ka nt Kt np Kp:Nat} {N:NetD} {p:List (List Int)}
theorem aMade8 (Z:NetZ h F Av nv Kv Aa na Ka At nt Kt N) (hf:FewN N) (ok:N.Ok) (hK:∀ g h' Fa Ft F,GrX h' Fa Ft F g N→(∀ z,Fa z∨Ft z∨F z→h.next≤z)→Nw h h'→Q (.pointer (some ⟨g,0,none⟩)) h') :
  WC Tryz.prog 73 [.agg #[.slice Av nv Kv,.slice Aa na Ka,.slice At nt Kt]] h Q:=by
 have lv:=Z.vs.len
 have la:=Z.xa.len
 have lt:=Z.ts.len
 obtain ⟨f1,f2,f3,f4⟩:=hf
 refine w_law8_Made fun h1 e1=>?_
 obtain ⟨k1,g1,z1⟩:=news e1
 have Z1:=Z.nw k1
 refine ⟨_,_,_,_,_,_,_,_,_,ldN3' (ldC_of g1 rfl) (ldC_of g1 rfl) (ldC_of g1 rfl),aTo3 Z1.vs Z1.xa Z1.ts (by omega) (by omega) (by omega) (fun t ht=>by have:=f4 t ht; omega) fun A1 K1 A2 K2 A3 K3 h2 s1 s2 s3 k2=>⟨_,_,_,_,_,_,_,_,_,rfl,?_⟩⟩
 have z2:=k2.next
 exact aGraphNew s1 s2 s3 ok (by omega) fun g h3 Fa Ft F' G lo k3=>⟨_,none,rfl,fun _=>hK g h3 Fa Ft F' G (fun z hz=>by have:=lo z hz; omega) ((k1.trans k2).trans k3),fun t u h=>by cases h⟩
theorem aMade17 (Z:NetZ h F Av nv Kv Aa na Ka At nt Kt N) (hf:FewN N) (ok:N.Ok) (hs:Sz (Rc.sliceZ cI) G h Ap np Kp p) (hp:PartOk N.nv p) (hK:∀ o h',OvA h' (fun z=>h.next≤z) o N p→Nw h h'→Q (.pointer (some ⟨o,0,none⟩)) h') :
  WC Tryz.prog 74 [.agg #[.slice Av nv Kv,.slice Aa na Ka,.slice At nt Kt],.agg #[.slice Ap np Kp]] h Q:=by
 have ln:=hs.len
 have h6:=hp.few
 have hnv:=hp.nv_
 have hsz:=size_few (N:=N) (p:=p) hf.2.1 h6
 refine w_law17_Made fun h1 e1 h2 e2=>?_
 obtain ⟨k1,g1,z1⟩:=news e1
 obtain ⟨k2,g2,z2⟩:=news e2
 have k12:=k1.trans k2
 have g12:=k2.bk (by omega) g1
 refine ⟨_,_,_,_,_,_,_,_,_,ldN3' (ldC_of g12 rfl) (ldC_of g12 rfl) (ldC_of g12 rfl),aMade8 (Z.nw k12) hf ok fun g h3 Fa Ft F' X3 lo k3=>⟨_,rfl,(fun h=>by cases h),fun _=>⟨g,0,rfl,_,_,_,ldN1 (ldC_of (k3.bk (by omega) g2) rfl),?_⟩⟩⟩
 have G3:=X3.gr
 have k13:=k12.trans k3
 refine aTo13 (hs.nw k13) (by omega) (fun x hx=>by rw [hp.rows x hx]; omega) fun A' K' h4 s4 k4=>⟨_,_,_,rfl,?_⟩
 have z4:=(k13.trans k4).next
 refine aOverNew (G3.nw k4) hp s4 (by omega) fun o h5 O k5=>⟨_,none,rfl,fun _=>hK o h5 ?_ ((k13.trans k4).trans k5),fun t u h=>by cases h⟩
 obtain ⟨⟨w1,w2⟩,⟨a1,a2,a3,a4,a5⟩,⟨b1,b2,b3,b4,b5⟩,⟨c1,c2,c3,c4,c5⟩,⟨d1,d2,d3,d4,d5⟩,⟨e1,e2,e3,e4,e5⟩,q1,q2,q3,q4,q5⟩:=O
 exact ⟨⟨by omega,w2⟩,⟨a1,a2,a3,a4,a5.mono fun z hz _=>by omega⟩,⟨b1,b2,b3,b4,b5.mono fun z hz _=>by omega⟩,⟨c1,c2,c3,c4,c5.mono fun z hz _=>by omega⟩,⟨d1,d2,d3,d4,d5.mono fun z hz _=>by omega⟩,⟨e1,e2,e3,e4,e5.mono fun z hz _=>by omega⟩,q1,q2,q3,q4,q5⟩
theorem eqok3 {a b c:Value} (ha:EqOkN 5 a) (hb:EqOkN 5 b) (hc:EqOkN 5 c):EqOk (.agg #[a,b,c]):=by
 intro v hv
 have hv':v=a∨v=b∨v=c:=by simpa using hv
 rcases hv' with rfl | rfl | rfl
 ·exact ha
 ·exact hb
 ·exact hc
theorem Sz.ok5 {α:Type} {r:Rc α} {F:Nat→Prop} {xs:List α} (hs:Sz r F h A n K xs) (hn:0<n):EqOkN 5 (.slice A n K):=by
 obtain ⟨b,o,rfl,-⟩:=hs.at_ hn
 rfl
theorem eqok1' {a:Value} (ha:EqOkN 5 a):EqOk (.agg #[a]):=by
 intro v hv
 have hv':v=a:=by simpa using hv
 subst hv'
 exact ha
structure RdyA (h0 h:AH) (g o C:Nat) (costs:List Int) (N:NetD) (p:List (List Int)):Prop where
 gr:∃ Fa Ft F,GrX h Fa Ft F g N∧(∀ z,Fa z∨Ft z∨F z→h0.next≤z)∧∃ Fo,OvA h Fo o N p∧(∀ z,Fo z→h0.next≤z∧¬ Fa z∧¬ Ft z)∧¬ Fa C∧¬ Ft C
 cs:Bk h C (costs.map (Value.int .i64)) 2
 cp:h0.next≤C∧C<h.next
 ok:CostsOk N p costs
 nn:∀ x∈costs,0≤x
theorem OvA.mono {o:Nat} {Fo Fo':Nat→Prop} (O:OvA h Fo o N p) (hF:∀ z,Fo z→z<h.next→Fo' z):OvA h Fo' o N p:=by
 obtain ⟨⟨w1,w2⟩,⟨a1,a2,a3,a4,a5⟩,⟨b1,b2,b3,b4,b5⟩,⟨c1,c2,c3,c4,c5⟩,⟨d1,d2,d3,d4,d5⟩,⟨e1,e2,e3,e4,e5⟩,q1,q2,q3,q4,q5⟩:=O
 exact ⟨⟨hF _ w1 w2,w2⟩,⟨a1,a2,a3,a4,a5.mono hF⟩,⟨b1,b2,b3,b4,b5.mono hF⟩,⟨c1,c2,c3,c4,c5.mono hF⟩,⟨d1,d2,d3,d4,d5.mono hF⟩,⟨e1,e2,e3,e4,e5.mono hF⟩,q1,q2,q3,q4,q5⟩
theorem GrX.lt {g:Nat} {Fa Ft F:Nat→Prop} (X:GrX h Fa Ft F g N):GrX h (fun z=>Fa z∧z<h.next) (fun z=>Ft z∧z<h.next) (fun z=>F z∧z<h.next) g N:=by
 obtain ⟨o,⟨a1,a2,a3,a4,a5⟩,⟨b1,b2,b3,b4,b5⟩,⟨c1,c2,c3,c4,c5⟩,⟨d1,d2,d3,d4,d5⟩,⟨e1,e2,e3,e4,e5⟩,⟨f1,f2,f3,f4,f5⟩,ok,fw,dj⟩:=X
 exact ⟨⟨⟨o.1,o.2⟩,o.2⟩,⟨a1,a2,a3,a4,a5.mono fun z hz hl=>⟨hz,hl⟩⟩,⟨b1,b2,b3,b4,b5.mono fun z hz hl=>⟨hz,hl⟩⟩,⟨c1,c2,c3,c4,c5.mono fun z hz hl=>⟨hz,hl⟩⟩,⟨d1,d2,d3,d4,d5.mono fun z hz hl=>⟨hz,hl⟩⟩,⟨e1,e2,e3,e4,e5.mono fun z hz hl=>⟨hz,hl⟩⟩,⟨f1,f2,f3,f4,f5.mono fun z hz hl=>⟨hz,hl⟩⟩,ok,fw,fun z=>⟨fun hz=>⟨fun h=>((dj z).1 hz.1).1 h.1,fun h=>((dj z).1 hz.1).2 h.1⟩,fun hz h=>(dj z).2 hz.1 h.1⟩⟩
theorem aReady21 (Z:NetZ h F Av nv Kv Aa na Ka At nt Kt N) (hf:FewN N) (ok:N.Ok) (hna:0<na) (hs:Sz (Rc.sliceZ cI) G h Ap np Kp p) (hp:PartOk N.nv p)
  (hK:∀ g o C costs h',RdyA h h' g o C costs N p→Nw h h'→Q (.tuple #[.pointer (some ⟨g,0,none⟩),.pointer (some ⟨o,0,none⟩),.slice (some ⟨C,0,none⟩) (N.size p) (cx (N.size p)),.bool true]) h') :
  WC Tryz.prog 27 [.agg #[.slice Av nv Kv,.slice Aa na Ka,.slice At nt Kt],.agg #[.slice Ap np Kp]] h Q:=by
 have lv:=Z.vs.len
 have la:=Z.xa.len
 have lt:=Z.ts.len
 have ln:=hs.len
 have h1p:=hp.some_
 have hto:=NetD.to_lt (N:=N) ok (a:=0) (by show 0<N.xa.length; omega)
 have hnv:0<nv:=by have:=hto.1; unfold NetD.nv at this; omega
 have hnt:0<nt:=by
  have hv:N.vs[0]? = some (N.vs[0]'(by omega)):=List.getElem?_eq_getElem _
  have:=ok.verts_ _ (List.mem_of_getElem? hv)
  omega
 have hsz:=size_few (N:=N) (p:=p) hf.2.1 hp.few
 refine w_law21_Ready fun h1 e1 h2 e2=>?_
 obtain ⟨k1,g1,z1⟩:=news e1
 obtain ⟨k2,g2,z2⟩:=news e2
 have k12:=k1.trans k2
 have g12:=k2.bk (by omega) g1
 have bN:∀ {h'},Nw h2 h'→ldN h' h.next 0 3=some [.slice Av nv Kv,.slice Aa na Ka,.slice At nt Kt]:=fun a=>ldN3' (ldC_of (a.bk (by omega) g12) rfl) (ldC_of (a.bk (by omega) g12) rfl) (ldC_of (a.bk (by omega) g12) rfl)
 have bP:∀ {h'},Nw h2 h'→ldN h' h1.next 0 1=some [.slice Ap np Kp]:=fun a=>ldN1 (ldC_of (a.bk (by omega) g2) rfl)
 refine ⟨_,_,_,_,_,_,_,_,_,bN (Nw.refl _),_,_,_,_,_,_,_,_,_,bN (Nw.refl _),_,_,_,bP (Nw.refl _),aMade8 (Z.nw k12) hf ok fun g h3 Fa Ft F' X3 lo k3=>⟨_,rfl,bP k3,eqok1' (hs.ok5 (by omega)),bN k3,eqok3 (Z.vs.ok5 hnv) (Z.xa.ok5 hna) (Z.ts.ok5 hnt),?_⟩⟩
 have k13:=k12.trans k3
 refine aMade17 (Z.nw k13) hf ok (hs.nw k13) hp fun o h4 O k4=>⟨_,rfl,(fun h=>by cases h),fun _=>⟨g,0,rfl,(fun h=>by cases h),fun _=>⟨o,0,rfl,?_⟩⟩⟩
 have z4:=(k13.trans k4).next
 have z12:=k12.next
 have z13:=k13.next
 have X3':=X3.lt
 have z34:=k4.next
 refine aAll (X3'.gr.nw k4) hf.2.1 O hsz fun C costs h5 b5 c1 c2 hco hnn k5=>⟨_,_,_,rfl,hK g o C costs h5 ⟨⟨_,_,_,(X3'.nw k4).nw k5,fun z hz=>?_,fun z=>h3.next≤z,O.nw k5,fun z hz=>⟨by omega,fun h=>by have:=h.2; omega,fun h=>by have:=h.2; omega⟩,fun h=>by have:=h.2; omega,fun h=>by have:=h.2; omega⟩,b5,⟨by omega,c2⟩,hco,hnn⟩ ((k13.trans k4).trans k5)⟩
 have:=lo z (hz.elim (fun h=>.inl h.1) fun h=>.inr (h.elim (fun h=>.inl h.1) fun h=>.inr h.1))
 omega
theorem aReady0 (Z:NetZ h F Av nv Kv Aa na Ka At nt Kt N) (hf:FewN N) (ok:N.Ok) (hna:0<na) (hs:Sz (Rc.sliceZ cI) G h Ap np Kp p) (hp:PartOk N.nv p)
  (hK:∀ g o C costs h',RdyA h h' g o C costs N p→Nw h h'→Q (.tuple #[.pointer (some ⟨g,0,none⟩),.pointer (some ⟨o,0,none⟩),.slice (some ⟨C,0,none⟩) (N.size p) (cx (N.size p)),.bool true]) h') :
  WC Tryz.prog 6 [.agg #[.slice Av nv Kv,.slice Aa na Ka,.slice At nt Kt],.agg #[.slice Ap np Kp],.slice none 0 0] h Q:=by
 refine w_top_ready fun h1 e1 h2 e2=>?_
 obtain ⟨k1,g1,z1⟩:=news e1
 obtain ⟨k2,g2,z2⟩:=news e2
 have k12:=k1.trans k2
 have z12:=k12.next
 have g12:=k2.bk (by omega) g1
 refine ⟨_,_,_,_,_,_,_,_,_,ldN3' (ldC_of g12 rfl) (ldC_of g12 rfl) (ldC_of g12 rfl),_,_,_,ldN1 (ldC_of g2 rfl),aReady21 (Z.nw k12) hf ok hna (hs.nw k12) hp fun g o C costs h3 R k3=>⟨_,_,_,_,_,_,rfl,fun _=>?_,fun h=>Bool.noConfusion h⟩⟩
 refine ⟨fun m A n K x h4=>A=some ⟨C,0,none⟩∧n=N.size p∧K=cx (N.size p)∧x=0∧h4=h3,0,⟨rfl,rfl,rfl,rfl,rfl⟩,?_⟩
 rintro m A n K x h4 ⟨rfl,rfl,rfl,rfl,rfl⟩
 refine ⟨fun h=>absurd h (by decide),fun _=>hK g o C costs h4 ?_ (k12.trans k3)⟩
 obtain ⟨⟨Fa,Ft,F',X,lo,Fo,O,lo2,nC⟩,cs,cp,co,nn⟩:=R
 exact ⟨⟨Fa,Ft,F',X,fun z hz=>by have:=lo z hz; omega,Fo,O,fun z hz=>⟨by have:=(lo2 z hz).1; omega,(lo2 z hz).2⟩,nC⟩,cs,⟨by omega,cp.2⟩,co,nn⟩
end
end Eva
end
section
open Go Go.RowKit
inductive HopsR (e:Nat→Nat→Option Nat) (lev:Nat→Nat) (s:Nat):Nat→Nat→List Stp→Prop
 | nil:HopsR e lev s s 0 []
 | snoc {a b c x:Nat} {hs:List Stp}:HopsR e lev s a c hs→e a b=some x→HopsR e lev s b (c+x) (hs ++ [((lev a:Int),(a:Int),(b:Int))])
def tri3 (s:Stp):List Value:=[.int .i64 s.1,.int .i64 s.2.1,.int .i64 s.2.2]
def flatT (hs:List Stp):List Value:=hs.flatMap tri3
theorem flatT_len:∀ hs:List Stp,(flatT hs).length=hs.length * 3
 | []=>rfl
 | s :: hs=>by
  show (tri3 s ++ flatT hs).length=_
  rw [List.length_append,flatT_len hs,List.length_cons,Nat.succ_mul,Nat.add_comm]; rfl
theorem flatT_of:∀ {hs:List Stp} {cells:List Value},cells.length=hs.length * 3→(∀ k s,hs[k]? = some s→(cells.drop (k * 3)).take 3=tri3 s)→cells=flatT hs
 | [],cells,hl,_=>List.eq_nil_of_length_eq_zero (by simpa using hl)
 | s :: hs,cells,hl,hx=>by
  have h0:=hx 0 s rfl
  rw [Nat.zero_mul,List.drop_zero] at h0
  have h1:cells.drop 3=flatT hs:=flatT_of (by rw [List.length_drop,hl,List.length_cons]; omega) fun k u hk=>by
   rw [List.drop_drop]
   have:=hx (k+1) u hk
   rwa [show (k+1) * 3=3+k * 3 by omega] at this
  show cells=tri3 s ++ flatT hs
  rw [← h0,← h1,List.take_append_drop]
theorem flatT_set:∀ {hs:List Stp} {k:Nat} {s:Stp},k<hs.length→(flatT hs).take (k * 3) ++ tri3 s ++ (flatT hs).drop (k * 3+3)=flatT (hs.set k s)
 | [],k,s,h=>by simp at h
 | u :: hs,0,s,h=>by
  show (tri3 u ++ flatT hs).take (0 * 3) ++ tri3 s ++ (tri3 u ++ flatT hs).drop 3=tri3 s ++ flatT hs
  rfl
 | u :: hs,k+1,s,h=>by
  have ih:=flatT_set (hs:=hs) (k:=k) (s:=s) (by simpa using h)
  show (tri3 u ++ flatT hs).take ((k+1) * 3) ++ tri3 s ++ (tri3 u ++ flatT hs).drop ((k+1) * 3+3)=tri3 u ++ flatT (hs.set k s)
  rw [← ih,show (k+1) * 3=3+k * 3 by omega,show 3+k * 3+3=3+(k * 3+3) by omega]
  have e1:(tri3 u ++ flatT hs).take (3+k * 3)=tri3 u ++ (flatT hs).take (k * 3):=List.take_length_add_append (l₁:=tri3 u) (k * 3)
  have e2:(tri3 u ++ flatT hs).drop (3+(k * 3+3))=(flatT hs).drop (k * 3+3):=by rw [← List.drop_drop]; rfl
  rw [e1,e2,List.append_assoc,List.append_assoc,List.append_assoc]
theorem flatT_get:∀ {hs:List Stp} {k:Nat} {s:Stp},hs[k]? = some s→((flatT hs).drop (k * 3)).take 3=tri3 s
 | [],k,s,h=>by simp at h
 | u :: hs,0,s,h=>by
  obtain rfl:=Option.some.inj h
  rfl
 | u :: hs,k+1,s,h=>by
  have ih:=flatT_get (hs:=hs) (k:=k) (s:=s) h
  show ((tri3 u ++ flatT hs).drop ((k+1) * 3)).take 3=_
  rw [show (k+1) * 3=3+k * 3 by omega,← List.drop_drop]
  exact ih
namespace Eva
theorem tyH:tyB Tryz.prog 135 3 24=true:=by kernel_rfl
section
variable {h h' h0:AH} {Q:Value→AH→Prop} {A:Option Addr} {n K:Nat} {hs:List Stp} {t:TypeId}
theorem OwnP.flatH (o:OwnP cTri h (ownB A) t A n K hs):hs.length=n∧((A=none∧n=0)∨∃ g,A=some ⟨g,0,none⟩∧g<h.next∧Bk h g (flatT hs) t):=by
 obtain ⟨hl,o⟩:=o
 refine ⟨hl,?_⟩
 rcases o with ⟨rfl,rfl,_⟩ | ⟨g,cells,rfl,-,h2,h3,h4,-,-,h7⟩
 ·exact .inl ⟨rfl,rfl⟩
 ·refine .inr ⟨g,rfl,h2,?_⟩
  have:cells=flatT hs:=flatT_of (by rw [h4,hl]; rfl) fun k s hk=>h7 k s hk
  rw [← this]
  exact h3
theorem sa_flat {F:Nat→Prop} {g:Nat} (hb:Bk h g (flatT hs) t) (hF:F g) (hg:g<h.next) (K:Nat):Sa cTri F h (some ⟨g,0,none⟩) hs.length K hs:=Sa.of_bk hb rfl hF hg fun k s hk=>flatT_get hk
theorem aReverse (o:OwnP cTri h (ownB A) 135 A n K hs) (hn:n≤100000) (hK:∀ h',Sa cTri (ownB A) h' A n K hs.reverse→Mt (ownB A) h h'→h'.next=h.next→Q (.tuple #[]) h'):WC Tryz.prog 162 [.slice A n K] h Q:=by
 obtain ⟨hl,ho⟩:=o.flatH
 have w0:IntKind.i64.wrap ((n:Int) - 1)=(n:Int) - 1:=wr_ok (by omega) (by omega)
 refine w_slices_Reverse_ask_Hop_ask_Hop ⟨_,w0,fun m x y h1=>∃ (i:Nat) (ws:List Stp),x=i∧y=(n:Int) - 1 - i∧i≤n∧m=n - i∧ws.length=n∧(∀ k,k<n→ws[k]? = if k<i∨n≤k+i then hs[n - 1 - k]? else hs[k]?)∧(∀ g,A=some ⟨g,0,none⟩→Bk h1 g (flatT ws) 135)∧h1.next=h.next∧(∀ b,¬ ownB A b→h1.get b=h.get b),n,⟨0,hs,rfl,by omega,Nat.zero_le _,rfl,hl,fun k hk=>by rw [if_neg (by omega)],fun g hA=>?_,rfl,fun _ _=>rfl⟩,?_⟩
 ·rcases ho with ⟨h1,_⟩ | ⟨g',h1,_,h3⟩
  ·rw [h1] at hA; cases hA
  ·rw [h1] at hA
   injection hA with hA
   injection hA with hA
   subst hA
   exact h3
 rintro m x y h1 ⟨i,ws,rfl,rfl,hi,rfl,hwl,hws,hb,hz,hoth⟩
 refine ⟨fun hlt=>?_,fun hge=>?_⟩
 ·obtain ⟨g,rfl,hg⟩:∃ g,A=some ⟨g,0,none⟩∧g<h.next:=by
   rcases ho with ⟨_,h1⟩ | ⟨g,h1,h2,_⟩
   ·omega
   ·exact ⟨g,h1,h2⟩
  have b1:=hb g rfl
  obtain ⟨j,hj⟩:∃ j,n - 1 - i=j:=⟨_,rfl⟩
  obtain ⟨u,hu⟩:∃ u,ws[j]? = some u:=⟨_,List.getElem?_eq_getElem (by omega)⟩
  obtain ⟨v,hv⟩:∃ v,ws[i]? = some v:=⟨_,List.getElem?_eq_getElem (by omega)⟩
  have rd:∀ {k:Nat} {s:Stp},ws[k]? = some s→ldN h1 g (0+k * 3) 3=some [.int .i64 s.1,.int .i64 s.2.1,.int .i64 s.2.2]:=fun {k s} hk=>by
   have:=(List.getElem?_eq_some_iff.1 hk).1
   rw [Nat.zero_add,ldN_bk b1 (by rw [flatT_len]; omega),flatT_get hk]; rfl
  have wr3:∀ {ws:List Stp} {h1:AH} {k:Nat} (s:Stp),Bk h1 g (flatT ws) 135→k<ws.length→∃ h2,stC h1 g (0+k * 3) [.int .i64 s.1,.int .i64 s.2.1,.int .i64 s.2.2]=some h2∧Bk h2 g (flatT (ws.set k s)) 135∧h2.next=h1.next∧∀ b,b≠g→h2.get b=h1.get b:=fun {ws h1 k} s hb hk=>by
   refine ⟨_,stN hb (by rw [flatT_len,Nat.zero_add]; show k * 3+3≤_; omega) (flat3 rfl rfl rfl),?_,rfl,fun b hb=>by rw [get_put,if_neg hb]⟩
   show (h1.put g _).get g=_
   rw [get_put,if_pos rfl,Nat.zero_add]
   show some (AO.cells ((flatT ws).take (k * 3) ++ tri3 s ++ (flatT ws).drop (k * 3+3)) 135 false)=_
   rw [flatT_set hk]
  have wi:IntKind.i64.wrap ((i:Int)+1)=((i+1:Nat):Int):=by rw [Int.natCast_succ]; exact wr_ok (by omega) (by omega)
  have wj:IntKind.i64.wrap ((j:Int) - 1)=(n:Int) - 1 - ((i+1:Nat):Int):=by
   rw [wr_ok (by omega) (by omega)]; omega
  obtain ⟨h2,s2,b2,z2,o2⟩:=wr3 u b1 (k:=i) (by omega)
  obtain ⟨h3,s3,b3,z3,o3⟩:=wr3 v b2 (k:=j) (by simp; omega)
  refine ⟨j,by omega,g,0,rfl,by omega,_,_,_,rd hu,i,rfl,by omega,_,_,_,rd hv,by omega,h2,s2,by omega,h3,s3,_,wi,_,wj,n - (i+1),by omega,i+1,(ws.set i u).set j v,rfl,rfl,by omega,rfl,by simp [hwl],fun k hk=>?_,fun g' hA=>?_,by omega,fun b hn=>(o3 b (fun e=>hn e)).trans ((o2 b (fun e=>hn e)).trans (hoth b hn))⟩
  ·rw [List.getElem?_set,List.getElem?_set]
   have e1:=hws i (by omega)
   have e2:=hws j (by omega)
   rw [if_neg (by omega),hv] at e1
   rw [if_neg (by omega),hu] at e2
   by_cases k1:j=k
   ·subst k1
    rw [if_pos rfl,if_pos (by simp; omega),if_pos (by omega)]
    rw [e1]
    congr 1
    omega
   ·rw [if_neg k1]
    by_cases k2:i=k
    ·subst k2
     rw [if_pos rfl,if_pos (by omega),if_pos (by omega),e2]
     congr 1
     omega
    ·rw [if_neg k2,hws k hk]
     by_cases k3:k<i∨n≤k+i
     ·rw [if_pos k3,if_pos (by omega)]
     ·rw [if_neg k3,if_neg (by omega)]
  ·injection hA with hA
   injection hA with hA
   subst hA
   exact b3
 ·have hrev:ws=hs.reverse:=by
   apply List.ext_getElem?
   intro k
   by_cases hk:k<n
   ·rw [hws k hk,List.getElem?_reverse (by omega),hl]
    by_cases k3:k<i∨n≤k+i
    ·rw [if_pos k3]
    ·rw [if_neg k3]
     congr 1
     omega
   ·rw [List.getElem?_eq_none (by omega),List.getElem?_eq_none (by simp; omega)]
  subst hrev
  refine hK h1 ?_ ⟨by omega,fun b _ hn=>hoth b hn⟩ hz
  rcases ho with ⟨rfl,rfl⟩ | ⟨g,rfl,hg,-⟩
  ·have:hs = []:=List.eq_nil_of_length_eq_zero hl
   subst this
   rcases o.2 with ⟨_,_,rfl⟩ | ⟨g,_,h9,_⟩
   ·exact ⟨rfl,.inl ⟨rfl,rfl,rfl⟩,fun h=>absurd h (Nat.lt_irrefl _)⟩
   ·cases h9
  ·have:=sa_flat (F:=ownB (some ⟨g,0,none⟩)) (hb g rfl) rfl (by omega) K
   rwa [hwl] at this
end
section
variable {h h0:AH} {Q:Value→AH→Prop} {Fa F Fo:Nat→Prop} {N:NetD} {p:List (List Int)} {g o C s t q mp bf:Nat} {cA:Option Addr} {cK:Nat} {D:Nat→Prop}
theorem aNewQuest (G:GrA h Fa F g N) (O:OvA h Fo o N p) (hK:∀ q mp bf cA cK D h',QA h N p g o C s t q mp bf cA cK D h'→Bk h' bf ((List.replicate N.na (0:Int)).map (Value.int .i64)) 3→Q (.pointer (some ⟨q,0,none⟩)) h') :
  WC Tryz.prog 49 [.pointer (some ⟨g,0,none⟩),.pointer (some ⟨o,0,none⟩),.slice (some ⟨C,0,none⟩) (N.size p) (cx (N.size p)),.int .i64 s,.int .i64 t] h Q:=by
 have hna:=G.few.2
 refine w_ask_newQuest (oPart O fun A2 K2 h1 s1 k1=>⟨_,_,_,rfl,fun h2 e2=>?_⟩)
 obtain ⟨k2,g2,z2⟩:=news e2
 refine aArcs (G.nw (k1.trans k2)) ⟨_,rfl,N.na,rfl,by omega,fun h4 e4 h5 e5=>?_⟩
 obtain ⟨k4,g4,z4⟩:=news e4
 obtain ⟨k5,g5,z5⟩:=news e5
 have z1:=k1.next
 rw [rep_one] at g4
 have k25:=k4.trans k5
 refine hK h4.next h1.next h2.next A2 K2 (fun b=>h.next≤b∧b<h1.next) h5 ⟨((k1.trans k2).trans k25),g5,((s1.mono fun b hb hlt=>⟨hb,hlt⟩).nw k2).nw k25,⟨fun _=>none,(MapF.new g2).keep (k25.get _ (by omega)),fun l c v hv=>by cases hv⟩,fun b hb=>by omega,by omega⟩ ?_
 have:=k5.bk (by omega) g4
 rw [List.map_replicate]
 exact this
end
end Eva
end
section
open Go Go.RowKit
def farO (N:NetD) (c:Nat) (ol:List Nat) (pr:List Int) (i:Nat):Option (Nat × Nat):=
 match ol[i]?,pr[i]? with
 | some b,some x=>if sumI [(c:Int),x,N.w b]<INF then some (b,(sumI [(c:Int),x,N.w b]).toNat) else none
 | _,_=>none
def farP (N:NetD) (c:Nat) (ol:List Nat) (pr:List Int) (j:Nat):List (Nat × Nat):=(List.range j).filterMap (farO N c ol pr)
theorem farP_succ (N:NetD) (c:Nat) (ol:List Nat) (pr:List Int) (j:Nat):farP N c ol pr (j+1)=farP N c ol pr j ++ (farO N c ol pr j).toList:=by
 unfold farP
 rw [List.range_succ,List.filterMap_append]
 cases h:farO N c ol pr j <;> simp [List.filterMap_cons,h]
theorem sum3 {c x w:Int} (hc:0≤c∧c≤INF) (hx:0≤x∧x≤INF) (hw:0≤w∧w≤INF):sumI [c,x,w]=min (c+x+w) INF:=by
 unfold INF at *
 show addI (addI (addI 0 c) x) w=_
 rw [addI_min,addI_min,addI_min,heldI_in (a:=0) (by omega) (by omega),heldI_in hc.1 hc.2,heldI_in hx.1 hx.2,heldI_in hw.1 hw.2,heldI_in (a:=min (0+c) 1152921504606846976) (by omega) (by omega),heldI_in (a:=min (min (0+c) 1152921504606846976+x) 1152921504606846976) (by omega) (by omega)]
 omega
theorem mem_farP {N:NetD} {c n b y:Nat} {ol:List Nat} {pr:List Int}:(b,y)∈farP N c ol pr n↔∃ i x,i<n∧ol[i]? = some b∧pr[i]? = some x∧sumI [(c:Int),x,N.w b]<INF∧y=(sumI [(c:Int),x,N.w b]).toNat:=by
 unfold farP
 rw [List.mem_filterMap]
 constructor
 ·rintro ⟨i,hi,h⟩
  unfold farO at h
  cases h1:ol[i]? with
  | none=>rw [h1] at h; cases h
  | some b'=>
   cases h2:pr[i]? with
   | none=>rw [h1,h2] at h; cases h
   | some x=>
    rw [h1,h2] at h
    simp only at h
    by_cases h3:sumI [(c:Int),x,N.w b']<INF
    ·rw [if_pos h3] at h
     obtain h4:=Option.some.inj h
     injection h4 with h5 h6
     subst h5
     exact ⟨i,x,by simpa using hi,h1,h2,h3,h6.symm⟩
    ·rw [if_neg h3] at h; cases h
 ·rintro ⟨i,x,hi,h1,h2,h3,rfl⟩
  refine ⟨i,by simpa using hi,?_⟩
  unfold farO
  rw [h1,h2]
  simp only
  rw [if_pos h3]
section
variable {N:NetD} {p:List (List Int)} {costs:List Int} {s t a c:Nat} {ol:List Nat} {pr:List Int}
theorem NextR.put (hR:NextR N p costs s t a ol pr) (hok:N.Ok) (hc:c<INFN) {b x:Nat} (h:N.le p costs s t a b=some x) (hx:c+x<INFN):(b,c+x)∈farP N c ol pr ol.length:=by
 obtain ⟨i,y,h1,h2,h3,h4,rfl⟩:=hR.all b x h
 have hy:=hR.nn y (List.mem_of_getElem? h2)
 have hw:=NetD.w_bd hok b
 have h5:=sum3 (c:=(c:Int)) (x:=y) (w:=N.w b) (by unfold INF INFN at *; omega) hy (by unfold INF at *; omega)
 refine mem_farP.2 ⟨i,y,(List.getElem?_eq_some_iff.1 h1).1,h1,h2,?_,?_⟩
 ·rw [h5]; unfold INF INFN at *; omega
 ·rw [h5]; unfold INF INFN at *; omega
theorem NextR.step (hR:NextR N p costs s t a ol pr) (hok:N.Ok) (hc:c<INFN) {b y:Nat} (h:(b,y)∈farP N c ol pr ol.length):y<INFN∧b<N.na∧∃ x,N.le p costs s t a b=some x∧y=c+x:=by
 obtain ⟨i,x,hi,h1,h2,h3,rfl⟩:=mem_farP.1 h
 have hy:=hR.nn x (List.mem_of_getElem? h2)
 have hw:=NetD.w_bd hok b
 have h5:=sum3 (c:=(c:Int)) (x:=x) (w:=N.w b) (by unfold INF INFN at *; omega) hy (by unfold INF at *; omega)
 rw [h5] at h3 ⊢
 refine ⟨by unfold INF INFN at *; omega,hR.lt b (List.mem_of_getElem? h1),_,hR.here i b x h1 h2 (by unfold INF at *; omega) (by unfold INF at *; omega),by unfold INF at *; omega⟩
end
theorem map_par {par:Nat→Nat} {k a n:Nat} (hk:k<n):((List.range n).map fun b=>((par b:Nat):Int)).set k (a:Int)=(List.range n).map fun b=>((upd par k a b:Nat):Int):=by
 apply List.ext_getElem?
 intro i
 rw [List.getElem?_set]
 by_cases e:k=i
 ·subst e
  simp [hk,upd]
 ·simp only [if_neg e,List.getElem?_map]
  by_cases hi:i<n
  ·simp [List.getElem?_range hi,upd,Ne.symm e]
  ·rw [List.getElem?_eq_none (by simpa using hi)]; rfl
namespace Eva
section
variable {h h0:AH} {Q:Value→AH→Prop} {Fa F Fo:Nat→Prop} {N:NetD} {p:List (List Int)} {g o C s t q mp bf:Nat} {cA:Option Addr} {cK:Nat} {D:Nat→Prop} {costs:List Int}
theorem aHops (B:QA h0 N p g o C s t q mp bf cA cK D h) (G:GrA h0 Fa F g N) (hp:PartOk N.nv p) (hs:s<N.na) (ht:t<N.na) {par rank:Nat→Nat} {done w:Nat→Option Nat} {cnt c:Nat} (hb:Bk h bf ((List.range N.na).map fun b=>Value.int .i64 ((par b:Nat):Int)) 3)
  (hP:Par INFN (N.le p costs s t) s done w par rank cnt) (hdn:∀ a x,done a=some x→a<N.na) (hcnt:cnt≤1000) (hw:w t=some c) (hnt:done t=none)
  (hK:∀ (A:Option Addr) (n K:Nat) (hs:List Stp) (h':AH),Sa cTri (fun b=>h.next≤b) h' A n K hs→HopsR (N.le p costs s t) (fun a=>N.lev p s t (N.to a)) s t c hs→Nw h h'→Q (.slice A n K) h') :
  WC Tryz.prog 97 [.pointer (some ⟨q,0,none⟩)] h Q:=by
 obtain ⟨P1,P2,P3,P4,P5,P6,P7,P8,P9⟩:=B.pos
 have hna:=G.few.2
 refine w_ask_quest_hops ⟨q,0,rfl,t,ldC_of B.blk rfl,fun m A1 n1 K1 x h1=>∃ (b cb:Nat) (l:List Stp),x=b∧b<N.na∧OwnP cTri h1 (ownB A1) 135 A1 n1 K1 l∧(∀ z,ownB A1 z→h.next≤z)∧Nw h h1∧n1+m≤cnt+1∧(b=s→cb=0)∧(b≠s→∃ ca y,done (par b)=some ca∧N.le p costs s t (par b) b=some y∧cb=ca+y∧rank (par b)<m) ∧
  (∀ hs0,HopsR (N.le p costs s t) (fun a=>N.lev p s t (N.to a)) s b cb hs0→HopsR (N.le p costs s t) (fun a=>N.lev p s t (N.to a)) s t c (hs0 ++ l.reverse)),cnt+1,⟨t,c,[],rfl,ht,OwnP.nil _ _ _ _,fun z hz=>hz.elim,Nw.refl _,by omega,fun e=>hP.zero c (.inr (e ▸ hw)),fun e=>?_,fun hs0 h=>by simpa using h⟩,?_⟩
 ·obtain ⟨ca,y,h1,h2,h3⟩:=hP.step t c e (.inr hw)
  exact ⟨ca,y,h1,h2,h3,by have:=hP.rank_lt _ _ h1; omega⟩
 rintro m A1 n1 K1 x h1 ⟨b,cb,l,rfl,hbn,o1,lo1,k1,hm,hbs,hbp,hsuf⟩
 have B1:=B.next k1
 refine ⟨s,ldC_of B1.blk rfl,fun he=>?_,fun hne=>?_⟩
 ·have he':b=s:=by omega
  subst he'
  obtain rfl:=hbs rfl
  have hfin:=hsuf [] .nil
  rw [List.nil_append] at hfin
  exact aReverse o1 (by omega) fun h2 s2 m2 z2=>⟨rfl,hK A1 n1 K1 l.reverse h2 (s2.mono fun z hz _=>lo1 z hz) hfin (m2.is_nw k1 lo1)⟩
 ·obtain ⟨ca,y,h2,h3,h4,h5⟩:=hbp (fun e=>hne (by rw [e]))
  have hpn:=hdn _ _ h2
  have rd:∀ h2,Nw h h2→ldC h2 bf (0+b)=some (.int .i64 ((par b:Nat):Int)):=fun h2 k2=>by
   rw [ldC_bk (k2.bk P9 hb),Nat.zero_add]
   simp [hbn]
  refine ⟨_,_,_,ldC_of B1.blk rfl,b,rfl,bf,0,rfl,hbn,_,rd h1 k1,aLevel B1 G hp hs ht hpn ⟨_,rfl,fun h4' e4=>?_⟩⟩
  obtain ⟨k4,g4,z4⟩:=news e4
  have hz:Sz cTri (fun z=>z=h1.next) h4' (some ⟨h1.next,0,none⟩) 1 2 [(((N.lev p s t (N.to (par b)):Nat):Int),((par b:Nat):Int),(b:Int))]:=Sz.one g4 rfl (by omega) rfl rfl
  obtain ⟨A',K',h5',y1,y2,y3,y4⟩:=app_row (free_tri _ _ _) (r:=cTri) tyH (o1.nw k4) hz (by omega) (by omega)
  have z1:=k1.next
  have z5:=y3.next
  have k5:Nw h h5':=y3.is_nw (k1.trans k4) lo1
  have B5:=B.next k5
  refine ⟨A',n1+1,K',h5',y1,_,_,_,ldC_of B5.blk rfl,bf,0,rfl,hbn,_,rd h5' k5,rank (par b),h5,par b,ca,_,rfl,hpn,y2,fun z hz=>(y4 z hz).elim (lo1 z) (fun h=>by omega),k5,by omega,fun e=>hP.zero ca (.inl (e ▸ h2)),fun e=>?_,fun hs0 hh=>?_⟩
  ·obtain ⟨ca',y',q1,q2,q3⟩:=hP.step _ ca e (.inl h2)
   exact ⟨ca',y',q1,q2,q3,hP.earlier _ ca e h2⟩
  ·rw [List.reverse_append,List.reverse_singleton,← List.append_assoc]
   refine hsuf _ ?_
   rw [h4]
   exact .snoc hh h3
end
end Eva
end
section
open Go Go.RowKit
def inO (N:NetD) (P:Nat→Bool) (a c b:Nat):Option (Nat × Nat):=if N.turn a b<INF∧N.w b<INF∧P b=true then some (b,(sumI [(c:Int),N.turn a b,N.w b]).toNat) else none
def inP (N:NetD) (P:Nat→Bool) (a c:Nat) (ol:List Nat) (j:Nat):List (Nat × Nat):=(ol.take j).filterMap (inO N P a c)
def bestO (N:NetD) (t a c v b:Nat):Nat:=if N.turn a b<INF∧b=t then min v (addI (c:Int) (N.turn a b)).toNat else v
def bestP (N:NetD) (t a c v:Nat) (ol:List Nat) (j:Nat):Nat:=(ol.take j).foldl (bestO N t a c) v
section
variable {N:NetD} {P:Nat→Bool} {a c t v s z k:Nat} {ol:List Nat}
theorem inP_zero:inP N P a c ol 0 = []:=by simp [inP]
theorem bestP_zero:bestP N t a c v ol 0=v:=by simp [bestP]
theorem inP_succ {j b:Nat} (h:ol[j]? = some b):inP N P a c ol (j+1)=inP N P a c ol j ++ (inO N P a c b).toList:=by
 unfold inP
 rw [List.take_add_one,h,List.filterMap_append]
 cases h2:inO N P a c b <;> simp [List.filterMap_cons,h2]
theorem bestP_succ {j b:Nat} (h:ol[j]? = some b):bestP N t a c v ol (j+1)=bestO N t a c (bestP N t a c v ol j) b:=by
 unfold bestP
 rw [List.take_add_one,h,List.foldl_append]
 rfl
theorem addI_of {c x:Int} (hc:0≤c∧c≤INF) (hx:0≤x∧x≤INF):addI c x=min (c+x) INF:=by
 unfold INF at *
 rw [addI_min,heldI_in hc.1 hc.2,heldI_in hx.1 hx.2]
theorem inP_put (hok:N.Ok) (hc:c<INFN) (ha:srcZ s z k=a) {b x:Nat} (h:inE N.e P s z k b=some x) (hx:c+x<INFN) (hol:ol=N.from_ (N.to a)):(b,c+x)∈inP N P a c ol ol.length:=by
 obtain ⟨h1,h2⟩:=inE_some.1 h
 rw [ha] at h2
 obtain ⟨h3,h4,rfl⟩:=NetD.e_some.1 h2
 have ht:=NetD.turn_bd hok a b
 have hw:=NetD.w_bd hok b
 have hs:=sum3 (c:=(c:Int)) (x:=N.turn a b) (w:=N.w b) (by unfold INF INFN at *; omega) (by unfold INF at *; omega) (by unfold INF at *; omega)
 unfold inP
 rw [List.take_length,List.mem_filterMap]
 refine ⟨b,by rw [hol]; exact turn_from hok h3,?_⟩
 unfold inO
 rw [if_pos ⟨h3,h4,h1⟩,hs]
 congr 2
 unfold INF INFN at *
 omega
theorem inP_step (hok:N.Ok) (hc:c<INFN) (ha:srcZ s z k=a) {b y:Nat} (h:(b,y)∈inP N P a c ol ol.length):b<N.na∧(y<INFN→∃ x,inE N.e P s z k b=some x∧y=c+x):=by
 unfold inP at h
 obtain ⟨b',h1,h2⟩:=List.mem_filterMap.1 h
 unfold inO at h2
 split at h2
 ·rename_i hh
  obtain ⟨h3,h4,h5⟩:=hh
  have h6:=Option.some.inj h2
  injection h6 with h7 h8
  subst h7
  have ht:=NetD.turn_bd hok a b'
  have hw:=NetD.w_bd hok b'
  have hs:=sum3 (c:=(c:Int)) (x:=N.turn a b') (w:=N.w b') (by unfold INF INFN at *; omega) (by unfold INF at *; omega) (by unfold INF at *; omega)
  refine ⟨(NetD.turn_in h3).2.1,fun hy=>⟨_,inE_some.2 ⟨h5,by rw [ha]; exact NetD.e_some.2 ⟨h3,h4,rfl⟩⟩,?_⟩⟩
  rw [hs] at h8
  unfold INF INFN at *
  omega
 ·cases h2
theorem best_stay:∀ (l:List Nat) (v:Nat),(t ∉ l∨¬ N.turn a t<INF)→l.foldl (bestO N t a c) v=v
 | [],v,_=>rfl
 | b :: l,v,h=>by
  have:bestO N t a c v b=v:=by
   unfold bestO
   rw [if_neg]
   rintro ⟨h1,rfl⟩
   rcases h with h | h
   ·exact h (by simp)
   ·exact h h1
  rw [List.foldl_cons,this]
  exact best_stay l v (h.imp (fun h g=>h (List.mem_cons_of_mem _ g)) id)
theorem best_le:∀ (l:List Nat) (v:Nat),N.turn a t<INF→t∈l→l.foldl (bestO N t a c) v=min v (addI (c:Int) (N.turn a t)).toNat
 | [],v,_,h=>by cases h
 | b :: l,v,h1,h=>by
  rw [List.foldl_cons]
  by_cases hb:b=t
  ·have e:bestO N t a c v b=min v (addI (c:Int) (N.turn a t)).toNat:=by unfold bestO; rw [hb,if_pos ⟨h1,rfl⟩]
   rw [e]
   by_cases hm:t∈l
   ·rw [best_le l _ h1 hm]; omega
   ·exact best_stay l _ (.inl hm)
  ·have e:bestO N t a c v b=v:=by unfold bestO; rw [if_neg (fun g=>hb g.2)]
   rw [e]
   rcases List.mem_cons.1 h with h | h
   ·exact absurd h.symm hb
   ·exact best_le l v h1 h
theorem bestP_end (hok:N.Ok) (hc:c<INFN) (hol:ol=N.from_ (N.to a)):bestP N t a c v ol ol.length=match N.tr a t with | some y=>min v (min (c+y) INFN) | none=>v:=by
 unfold bestP
 rw [List.take_length]
 have ht:=NetD.turn_bd hok a t
 by_cases h:N.turn a t<INF
 ·have e:N.tr a t=some (N.turn a t).toNat:=by unfold NetD.tr; rw [if_pos h]
  rw [e,best_le ol v h (by rw [hol]; exact turn_from hok h),addI_of (by unfold INF INFN at *; omega) (by unfold INF at *; omega)]
  simp only
  unfold INF INFN at *
  omega
 ·have e:N.tr a t=none:=by unfold NetD.tr; rw [if_neg h]
  rw [e]
  exact best_stay ol v (.inr h)
end
end
section
open Go Go.RowKit
namespace Eva
section
variable {h h':AH} {F G:Nat→Prop} {Q:Value→AH→Prop} {A Av Aa At Ap:Option Addr} {n K nv Kv na Ka nt Kt np Kp:Nat} {N:NetD} {p:List (List Int)} {xs:List Int}
theorem aHeld6 (x:Int) (hK:Q (.int .i64 (heldI x)) h):WC Tryz.prog 51 [.int .i64 x] h Q:=by
 unfold heldI at hK
 refine w_ref6_Held ⟨fun h0=>?_,fun h0=>⟨fun h1=>?_,fun h1=>?_⟩⟩
 ·rwa [if_pos h0] at hK
 ·rwa [if_neg h0,if_pos h1] at hK
 ·rwa [if_neg h0,if_neg h1] at hK
theorem aAdd6 (a b:Int) (hK:Q (.int .i64 (addI a b)) h):WC Tryz.prog 14 [.int .i64 a,.int .i64 b] h Q:=by
 have h1:=heldI_bd a
 have h2:=heldI_bd b
 exact w_ref6_Add (aHeld6 a ⟨_,rfl,aHeld6 b ⟨_,rfl,_,wr_ok (by omega) (by omega),aHeld6 _ ⟨_,rfl,hK⟩⟩⟩)
theorem aPlace6 (hs:Sa cI F h A n K xs) (hn:n≤1000000) (a:Int) (hK:∀ y:Int,(0≤y↔a∈xs)→Q (.int .i64 y) h):WC Tryz.prog 15 [.slice A n K,.int .i64 a] h Q:=by
 have hl:=hs.len
 refine w_ref6_Place ⟨fun m x h1=>∃ i:Nat,x=i∧i≤n∧m=n - i∧a ∉ xs.take i∧h1=h,n,⟨0,rfl,Nat.zero_le _,rfl,by simp,rfl⟩,?_⟩
 rintro m x h1 ⟨i,rfl,hi,rfl,hno,rfl⟩
 refine ⟨fun hlt=>?_,fun hge=>hK (-1) ⟨fun h=>absurd h (by omega),fun h=>?_⟩⟩
 ·obtain ⟨b,o,x,hA,-,-,hx,e0⟩:=hs.int (k:=i) (by omega)
  refine ⟨i,rfl,b,o,hA,by omega,x,e0,fun he=>hK i ⟨fun _=>?_,fun _=>by omega⟩,fun hne=>⟨_,wrS (by omega),n - (i+1),by omega,i+1,rfl,by omega,rfl,?_,rfl⟩⟩
  ·rw [← he]; exact List.mem_of_getElem? hx
  ·rw [List.take_add_one,hx]
   simp only [Option.toList_some,List.mem_append,List.mem_singleton]
   rintro (h | h)
   ·exact hno h
   ·exact hne h.symm
 ·rw [List.take_of_length_le (by omega)] at hno
  exact absurd h hno
theorem aHas16 {k:Nat} (h1:1≤k) (h2:k≤n) (hK:∀ h',Nw h h'→Q (.bool true) h'):WC Tryz.prog 42 [.agg #[.slice A n K],.int .i64 k] h Q:=by
 refine w_ref16_Has fun h1' e1=>?_
 obtain ⟨k1,g1,z1⟩:=news e1
 exact ⟨fun _=>⟨_,_,_,ldC_of g1 rfl,fun _=>hK _ k1,fun h=>absurd h (by omega)⟩,fun h=>absurd h (by omega)⟩
theorem aCross16 (Z:NetZ h F Av nv Kv Aa na Ka At nt Kt N) (ok:N.Ok) (hna:N.na≤1000) (hs:Sz (Rc.sliceZ cI) G h Ap np Kp p) (hp:PartOk N.nv p) {k:Nat} (h1:1≤k) (h2:k≤np)
  (hK:∀ A' n' K' h',Sa cI (fun b=>h.next≤b) h' A' n' K' (N.crsL p k N.na)→Nw h h'→Q (.slice A' n' K') h'):WC Tryz.prog 10 [.agg #[.slice Av nv Kv,.slice Aa na Ka,.slice At nt Kt],.agg #[.slice Ap np Kp],.int .i64 k] h Q:=by
 have hn:np≤6:=by rw [← hs.len]; exact hp.few
 have la:N.na=na:=Z.xa.len
 refine w_ref16_Cross fun h1' e1 h2' e2=>?_
 obtain ⟨k1,g1,z1⟩:=news e1
 obtain ⟨k2,g2,z2⟩:=news e2
 have k12:=k1.trans k2
 have g12:=k2.bk (by omega) g1
 refine ⟨fun m A4 n4 K4 x h4=>∃ i:Nat,x=i∧i≤N.na∧m=N.na - i∧OwnP cI h4 (ownB A4) 3 A4 n4 K4 (N.crsL p k i)∧(∀ z,ownB A4 z→h2'.next≤z)∧Nw h2' h4,N.na,⟨0,rfl,Nat.zero_le _,rfl,OwnP.nil _ _ _ _,fun z hz=>hz.elim,Nw.refl _⟩,?_⟩
 rintro m A4 n4 K4 x h4 ⟨i,rfl,hi,hm,o4,lo4,k4⟩
 have bA:∀ {h'},Nw h4 h'→ldC h' h.next 1=some (.slice Aa na Ka):=fun a=>ldC_of ((k4.trans a).bk (by omega) g12) rfl
 have bP:∀ {h'},Nw h4 h'→ldC h' h1'.next 0=some (.slice Ap np Kp):=fun a=>ldC_of ((k4.trans a).bk (by omega) g2) rfl
 have z4:=k4.next
 have wk:IntKind.i64.wrap ((k:Int) - 1)=((k - 1:Nat):Int):=by rw [Int.natCast_sub h1]; exact wr_ok (by omega) (by omega)
 refine ⟨_,_,_,bA (Nw.refl _),fun hlt=>⟨_,_,_,ldN1 (bP (Nw.refl _)),aHas16 h1 h2 fun h5 k5=>⟨_,rfl,fun _=>?_,fun h=>Bool.noConfusion h⟩⟩,fun hge=>?_⟩
 ·have k05:=(k12.trans k4).trans k5
  obtain ⟨b3,o3,A3,n3,K3,row,hA3,-,-,hrow,r0,srow⟩:=(hs.nw k05).rowZ (k:=k - 1) (by omega)
  obtain ⟨hrl,hrx⟩:=part_row hp hrow
  have hn3:n3=N.nv:=by rw [← srow.len]; exact hrl
  subst hn3
  have hf:=NetD.fr_lt ok (a:=i) (by omega)
  have ht:=NetD.to_lt ok (a:=i) (by omega)
  obtain ⟨b6,o6,u,v,w,hA6,-,-,hu,f0,f1,-⟩:=(Z.nw k05).xa.tri (k:=i) (by omega)
  have harc:N.arc i=(u,v,w):=by unfold NetD.arc; rw [hu]; rfl
  have hu':u=(N.fr i:Int):=by have:=hf.2; rw [harc] at this; exact this
  have hv':v=(N.to i:Int):=by have:=ht.2; rw [harc] at this; exact this
  subst hu' hv'
  obtain ⟨b7,o7,x,hA7,-,-,hx,x0⟩:=srow.int (k:=N.fr i) hf.1
  obtain ⟨b8,o8,y,hA8,-,-,hy,y0⟩:=srow.int (k:=N.to i) ht.1
  have cx_:=cel_row hrow hx
  have cy_:=cel_row hrow hy
  obtain ⟨x',hx',xn,-⟩:=hrx _ hf.1
  obtain ⟨y',hy',yn,-⟩:=hrx _ ht.1
  obtain rfl:=Option.some.inj (hx.symm.trans hx')
  obtain rfl:=Option.some.inj (hy.symm.trans hy')
  refine ⟨_,_,_,bP k5,_,wk,k - 1,rfl,b3,o3,hA3,by omega,_,_,_,r0,_,_,_,bA k5,i,rfl,b6,o6,hA6,by omega,_,f0,N.fr i,rfl,b7,o7,hA7,hf.1,x,x0,_,_,_,bP k5,_,wk,k - 1,rfl,b3,o3,hA3,by omega,_,_,_,r0,_,_,_,bA k5,b6,o6,hA6,by omega,_,f1,N.to i,rfl,b8,o8,hA8,ht.1,y,y0,fun he=>?_,fun hne h6 e6=>?_⟩
  ·have hcr:N.crs p k i=false:=by unfold NetD.crs; rw [cx_,cy_,he]; simp
   exact ⟨_,wrS (by omega),N.na - (i+1),by omega,i+1,rfl,by omega,rfl,by rw [NetD.crsL_succ,hcr,if_neg Bool.false_ne_true]; exact o4.nw k5,lo4,k4.trans k5⟩
  ·have hcr:N.crs p k i=true:=by unfold NetD.crs; rw [cx_,cy_]; simp; omega
   obtain ⟨k6,g6,z6⟩:=news e6
   have hz:Sz cI (fun z=>z=h5.next) h6 (some ⟨h5.next,0,none⟩) 1 2 [(i:Int)]:=Sz.one g6 rfl (by omega) rfl rfl
   have hl4:=o4.len
   have hlt4:n4≤1000:=by rw [← hl4]; have:=NetD.crsL_len (N:=N) (p:=p) (k:=k) i; omega
   obtain ⟨A',K',h7,y1,y2,y3,y4⟩:=app_row free_cI tyI8 (o4.nw (k5.trans k6)) hz (by omega) (by omega)
   have z5:=k5.next
   refine ⟨A',n4+1,K',h7,y1,_,wrS (by omega),N.na - (i+1),by omega,i+1,rfl,by omega,rfl,?_,fun z hz=>(y4 z hz).elim (lo4 z) (fun h=>by omega),y3.is_nw ((k4.trans k5).trans k6) lo4⟩
   rw [NetD.crsL_succ,hcr,if_pos rfl]
   exact y2
 ·obtain rfl:i=N.na:=by omega
  exact hK A4 n4 K4 h4 (o4.sa.mono fun z hz _=>by have:=lo4 z hz; omega) (k12.trans k4)
def marksL (p:List (List Int)) (k c n:Nat):List Bool:=(List.range n).map fun v=>decide (cel p k v=c)
theorem aMarks {F:Nat→Prop} {nv:Nat} (hp:PartOk nv p) (hs:Sa cRows F h A n K p) {k c:Nat} (h1:1≤k) (h2:k≤n)
  (hK:∀ B h',Bk h' B ((marksL p k c nv).map Value.bool) 4→h.next≤B→B<h'.next→Nw h h'→Q (.slice (some ⟨B,0,none⟩) nv (cx nv)) h'):WC Tryz.prog 8 [.agg #[.slice A n K],.int .i64 k,.int .i64 c] h Q:=by
 have hn:n≤6:=by rw [← hs.len]; exact hp.few
 have hnv:=hp.nv_
 refine w_rim_Marks fun h1' e1=>?_
 obtain ⟨k1,g1,z1⟩:=news e1
 refine ⟨_,_,_,ldC_of g1 rfl,fun h=>absurd h (by omega),fun _=>⟨_,_,_,ldN1 (ldC_of g1 rfl),w_rim_row fun h2' e2=>?_⟩⟩
 obtain ⟨k2,g2,z2⟩:=news e2
 have k12:=k1.trans k2
 obtain ⟨b,o,A',n',K',row,hA,-,-,hr,e0,s0⟩:=(hs.nw k12).row (k:=k - 1) (by omega)
 obtain ⟨hrl,hrx⟩:=part_row hp hr
 have hn':n' = nv:=by rw [← s0.len]; exact hrl
 subst hn'
 obtain ⟨b',o',A'',n'',K'',row0,hA',-,-,hr0,e0',s0'⟩:=(hs.nw k12).row (k:=0) (by omega)
 have hl0:n'' = n':=by rw [← s0'.len]; exact hp.rows _ (List.mem_of_getElem? hr0)
 subst hl0
 refine ⟨fun h=>absurd h (by omega),fun _=>⟨_,_,_,ldC_of g2 rfl,fun h=>absurd h (by omega),fun _=>⟨_,_,_,ldC_of g2 rfl,_,wr_ok (by omega) (by omega),k - 1,by omega,b,o,hA,by omega,_,_,_,e0,_,_,_,rfl,_,_,_,ldC_of (k2.bk (by omega) g1) rfl,b',o',hA',by omega,_,_,_,by rw [Nat.add_zero] at e0' ⊢; exact e0',by omega,fun h3 e3=>?_⟩⟩⟩
 obtain ⟨k3,g3,z3⟩:=news e3
 rw [rep_one] at g3
 refine ⟨_,rfl,fun m x h4=>∃ i:Nat,x=i∧i≤n''∧m=n'' - i∧Bk h4 h2'.next (((marksL p k c n'').take i ++ List.replicate (n'' - i) false).map Value.bool) 4∧Mt (fun z=>z=h2'.next) h3 h4,n'',⟨0,rfl,Nat.zero_le _,rfl,by simpa using g3,Mt.refl _ _⟩,?_⟩
 rintro m x h4 ⟨i,rfl,hi,hm,b4,m4⟩
 have z4:=m4.next
 have k24:Nw h2' h4:=m4.is_nw k3 fun z hz=>by omega
 refine ⟨fun hlt=>?_,fun hge=>?_⟩
 ·have hil:i<n'':=by split at hlt <;> omega
  obtain ⟨b5,o5,x,hA5,-,-,hx,x0⟩:=(s0.nw k24).int (k:=i) hil
  have cx_:=cel_row hr hx
  obtain ⟨x',hx',xn,-⟩:=hrx i hil
  obtain rfl:=Option.some.inj (hx.symm.trans hx')
  have hml:(marksL p k c n'')[i]? = some (decide (cel p k i=c)):=by simp [marksL,hil]
  have hmn:(marksL p k c n'').length=n'':=by simp [marksL]
  have put:∀ y:Bool,y=decide (cel p k i=c)→∃ h5,stC h4 h2'.next (0+i) [.bool y]=some h5∧Bk h5 h2'.next (((marksL p k c n'').take (i+1) ++ List.replicate (n'' - (i+1)) false).map Value.bool) 4∧Mt (fun z=>z=h2'.next) h4 h5:=fun y hy=>by
   obtain ⟨h5,s5,b5,z5,o5⟩:=st_one (v:=.bool y) b4 (o:=0+i) (by rw [List.length_map,List.length_append,List.length_take,List.length_replicate]; omega) rfl
   refine ⟨h5,s5,?_,⟨by omega,fun z _ hz=>o5 z hz⟩⟩
   rw [Nat.zero_add,← List.map_set] at b5
   have e:((marksL p k c n'').take i ++ List.replicate (n'' - i) false).set i y=(marksL p k c n'').take (i+1) ++ List.replicate (n'' - (i+1)) false:=by
    rw [List.set_append_right _ _ (by rw [List.length_take]; omega),List.length_take,Nat.min_eq_left (by omega),Nat.sub_self,show n'' - i=(n'' - (i+1))+1 by omega,List.replicate_succ,List.set_cons_zero,List.take_add_one,hml,List.append_assoc,hy]
    rfl
   rw [e] at b5
   exact b5
  refine ⟨i,rfl,b5,o5,hA5,hil,x,x0,fun he=>?_,fun hne=>?_⟩
  ·obtain ⟨h5,s5,b5',m5⟩:=put true (by simp; omega)
   exact ⟨hil,h5,s5,_,wrS (by omega),n'' - (i+1),by omega,i+1,rfl,by omega,rfl,b5',m4.then m5⟩
  ·obtain ⟨h5,s5,b5',m5⟩:=put false (by simp; omega)
   exact ⟨hil,h5,s5,_,wrS (by omega),n'' - (i+1),by omega,i+1,rfl,by omega,rfl,b5',m4.then m5⟩
 ·obtain rfl:i=n'':=by split at hge <;> omega
  have hmn:(marksL p k c i).length=i:=by simp [marksL]
  rw [List.take_of_length_le (by omega),Nat.sub_self,List.replicate_zero,List.append_nil] at b4
  exact hK _ h4 b4 (by omega) (by omega) (k12.trans k24)
end
end Eva
end
section
open Go Go.RowKit
namespace Eva
def parL (par:Nat→Nat) (n:Nat):List Int:=(List.range n).map fun b=>((par b:Nat):Int)
def doneL (done:Nat→Option Nat) (n:Nat):List Bool:=(List.range n).map fun a=>(done a).isSome
structure RA (h0:AH) (q mp bf DN hp n:Nat) (D:Nat→Prop) (done w:Nat→Option Nat) (par:Nat→Nat) (h:AH):Prop where
 dn:Bk h DN ((doneL done n).map Value.bool) 4
 bf_:Bk h bf ((parL par n).map (Value.int .i64)) 3
 heap:∃ S,HeapQA h S hp n w∧∀ b,S b→h0.next≤b∧b<h.next∧b≠q∧b≠mp∧b≠bf∧b≠DN∧¬ D b
 pos:h0.next≤DN∧DN<h.next∧DN≠q∧DN≠mp∧DN≠bf∧bf<h.next∧¬ D DN
section
variable {h h' h0:AH} {Q:Value→AH→Prop} {Fa F Fo:Nat→Prop} {N:NetD} {p:List (List Int)} {g o C s t q mp bf DN hp n:Nat} {cA:Option Addr} {cK:Nat} {D D':Nat→Prop} {costs:List Int} {done w:Nat→Option Nat} {par:Nat→Nat}
theorem RA.next (R:RA h0 q mp bf DN hp n D done w par h) (a:Nw h h'):RA h0 q mp bf DN hp n D done w par h':=by
 obtain ⟨p1,p2,p3,p4,p5,p6,p7⟩:=R.pos
 obtain ⟨S,H,hS⟩:=R.heap
 have z:=a.next
 exact ⟨a.bk p2 R.dn,a.bk p6 R.bf_,⟨S,H.nw a,fun b hb=>by have:=hS b hb; exact ⟨this.1,by omega,this.2.2⟩⟩,p1,by omega,p3,p4,p5,by omega,p7⟩
theorem RA.grow (R:RA h0 q mp bf DN hp n D done w par h) (m:Mt (fun b=>b=mp) h h') (hD:∀ b,D' b→D b∨h.next≤b) (hbf:bf≠mp):RA h0 q mp bf DN hp n D' done w par h':=by
 obtain ⟨p1,p2,p3,p4,p5,p6,p7⟩:=R.pos
 obtain ⟨S,H,hS⟩:=R.heap
 have z:=m.next
 refine ⟨m.bk p2 p4 R.dn,m.bk p6 hbf R.bf_,⟨S,H.off m fun b hb e=>(hS b hb).2.2.2.1 e,fun b hb=>?_⟩,p1,by omega,p3,p4,p5,by omega,fun hd=>(hD _ hd).elim p7 (fun h=>by omega)⟩
 obtain ⟨s1,s2,s3,s4,s5,s6,s7⟩:=hS b hb
 exact ⟨s1,by omega,s3,s4,s5,s6,fun hd=>(hD b hd).elim s7 (fun h=>by omega)⟩
theorem relax_snoc (dn:Nat→Option Nat) (k:Nat) (l:List (Nat × Nat)) (x:Nat × Nat) (st:(Nat→Option Nat) × (Nat→Nat)):relaxL dn k (l ++ [x]) st=relax1 dn k (relaxL dn k l st) x:=by
 unfold relaxL
 rw [List.foldl_append]; rfl
theorem aRun (B:QA h0 N p g o C s t q mp bf cA cK D h) (hbf:Bk h bf ((List.replicate N.na (0:Int)).map (Value.int .i64)) 3) (G:GrA h0 Fa F g N) (O:OvA h0 Fo o N p) (bc:Bk h0 C (costs.map (Value.int .i64)) 2) (hC:C<h0.next) (hco:CostsOk N p costs) (hsz:N.size p<1000000) (hs:s<N.na) (ht:t<N.na)
  (hK:∀ (d:Nat) (A:Option Addr) (n K:Nat) (hs:List Stp) (h':AH),Sa cTri (fun b=>h.next≤b) h' A n K hs→Nw h0 h'→(N.w s<INF→Least INFN (N.le p costs s t) s t d∧(d<INFN→HopsR (N.le p costs s t) (fun a=>N.lev p s t (N.to a)) s t d hs))→(INF≤N.w s→d=INFN)→(d=INFN→hs = [])→d≤INFN→Q (.tuple #[.int .i64 d,.slice A n K]) h') :
  WC Tryz.prog 50 [.pointer (some ⟨q,0,none⟩)] h Q:=by
 have hok:=G.ok
 have hp:=O.hp
 have hna:=G.few.2
 obtain ⟨P1,P2,P3,P4,P5,P6,P7,P8,P9⟩:=B.pos
 have none_:∀ h',Nw h0 h'→(N.w s<INF→Least INFN (N.le p costs s t) s t INFN)→Q (.tuple #[.int .i64 1152921504606846976,.slice none 0 0]) h':=fun h' k hL=>
  hK INFN none 0 0 [] h' ⟨rfl,.inl ⟨rfl,rfl,rfl⟩,fun h=>absurd h (Nat.lt_irrefl _)⟩ k (fun hw=>⟨hL hw,fun h=>absurd h (Nat.lt_irrefl _)⟩) (fun _=>rfl) (fun _=>rfl) (Nat.le_refl _)
 refine w_ask_quest_run ⟨q,0,rfl,_,ldC_of B.blk rfl,_,ldC_of B.blk rfl,aWeight (G.nw B.nw) hs ⟨_,rfl,fun hge=>none_ h B.nw (fun hw=>absurd hw (Int.not_lt.2 hge)),fun hlt=>?_⟩⟩
 have hws:N.w s<INF:=Int.not_le.1 hlt
 refine ⟨_,_,_,ldC_of B.blk rfl,by omega,fun h2 e2=>?_⟩
 obtain ⟨k2,g2,z2⟩:=news e2
 rw [rep_one] at g2
 refine ⟨_,_,_,ldC_of (B.next k2).blk rfl,hNew N.na (by omega) fun h3 S3 hh H3 k3 hS3=>⟨_,rfl,s,ldC_of (B.next (k2.trans k3)).blk rfl,hPut H3 hs (Int.le_refl _) (by omega) fun h4 S4 H4 m4 g4=>⟨_,rfl,?_⟩⟩⟩
 have z3:=k3.next
 have z4:=m4.next
 have S3lt:∀ b,S3 b→b<h3.next:=fun b hb=>by
  obtain ⟨row,costs',A',K',Bc,Bs,seats,-,-,-,q4⟩:=H3
  exact q4 b hb
 have S4lt:∀ b,S4 b→h2.next≤b∧b<h4.next:=fun b hb=>(g4 b hb).elim (fun h=>by have:=hS3 b h; have:=S3lt b h; omega) (fun h=>by omega)
 have B4:QA h0 N p g o C s t q mp bf cA cK D h4:=(B.next (k2.trans k3)).off m4 fun b hb=>⟨by have:=hS3 b hb; omega,by have:=hS3 b hb; omega,by have:=hS3 b hb; omega,fun hd=>by have:=(B.dlo b hd).2.1; have:=hS3 b hb; omega⟩
 have R4:RA h0 q mp bf h.next hh N.na D (fun _=>none) (fun b=>if b=s then some 0 else none) (fun _=>0) h4:=by
  refine ⟨?_,?_,⟨S4,H4,fun b hb=>?_⟩,by omega,by omega,by omega,by omega,by omega,by omega,fun hd=>by have:=(B.dlo _ hd).2.1; omega⟩
  ·have:=m4.bk (by omega) (fun hs=>by have:=hS3 _ hs; omega) (k3.bk (by omega) g2)
   have e:doneL (fun _=>none) N.na=List.replicate N.na false:=by
    unfold doneL
    show (List.range N.na).map (fun _=>false)=_
    rw [List.map_const',List.length_range]
   rw [e,List.map_replicate]
   exact this
  ·have:=m4.bk (by omega) (fun hs=>by have:=hS3 _ hs; omega) ((k2.trans k3).bk P9 hbf)
   have e:parL (fun _=>0) N.na=List.replicate N.na 0:=by
    unfold parL
    show (List.range N.na).map (fun _=>(0:Int))=_
    rw [List.map_const',List.length_range]
   rw [e]
   exact this
  ·have:=S4lt b hb
   exact ⟨by omega,by omega,by omega,by omega,by omega,by omega,fun hd=>by have:=(B.dlo b hd).2.1; omega⟩
 refine ⟨fun m h5=>∃ (done w:Nat→Option Nat) (par rank:Nat→Nat) (D:Nat→Prop),QA h0 N p g o C s t q mp bf cA cK D h5∧RA h0 q mp bf h.next hh N.na D done w par h5∧Dij INFN (N.le p costs s t) s done (finQ INFN w)∧Par INFN (N.le p costs s t) s done w par rank (cntD done N.na)∧(∀ b c,w b=some c→c<INFN)∧(∀ a c,done a=some c→a<N.na)∧done t=none∧((done=(fun _=>none)∧w=fun b=>if b=s then some 0 else none)∨done s≠none)∧m=N.na - cntD done N.na∧h.next<h5.next,N.na,⟨fun _=>none,_,_,fun _=>0,D,B4,R4,?_,?_,fun b c hb=>?_,(fun a c h=>by cases h),rfl,.inl ⟨rfl,rfl⟩,?_,by omega⟩,?_⟩
 ·rw [finQ_first]; exact Dij.new (by unfold INFN; omega)
 ·have e:cntD (fun _=>none) N.na=0:=by simp [cntD]
  rw [e]
  exact Par.start rfl rfl _ _
 ·by_cases e:b=s
  ·simp [e] at hb; unfold INFN; omega
  ·simp [e] at hb
 ·have e:cntD (fun _=>none) N.na=0:=by simp [cntD]
  rw [e]; rfl
 rintro m h5 ⟨done,w,par,rank,D5,B5,R5,hD,hPr,hwI,hdn,hdt,hst,rfl,hlt5⟩
 have hfin:finQ INFN w=w:=by
  funext b
  unfold finQ
  cases hb:w b with
  | none=>rfl
  | some c=>simp [hwI b c hb]
 obtain ⟨S5,H5,hS5⟩:=R5.heap
 obtain ⟨p51,p52,p53,p54,p55,p56,p57⟩:=R5.pos
 refine hPop H5 (fun hq=>?_) (fun k c h6 hkN hqk hmin H6 m6 z6=>?_)
 ·refine ⟨_,_,_,rfl,fun h=>Bool.noConfusion h,fun _=>none_ h5 B5.nw fun _=>?_⟩
  have:=hD.over (fun b c hb=>by rw [hq b] at hb; cases hb) t
  rw [hdt] at this
  exact this
 ·have hcI:=hwI k c hqk
  have offS:∀ b,S5 b→h0.next≤b∧b≠q∧b≠mp∧¬ D5 b:=fun b hb=>by have:=hS5 b hb; exact ⟨this.1,this.2.2.1,this.2.2.2.1,this.2.2.2.2.2.2⟩
  have B6:=B5.off m6 offS
  have dn6:=m6.bk p52 (fun hs=>(hS5 _ hs).2.2.2.2.2.1 rfl) R5.dn
  have bf6:=m6.bk p56 (fun hs=>(hS5 _ hs).2.2.2.2.1 rfl) R5.bf_
  have hcn:cntD done N.na≤N.na:=cntD_le _ _
  refine ⟨_,_,_,rfl,fun _=>⟨t,ldC_of B6.blk rfl,fun he=>?_,fun hne=>?_⟩,fun h=>Bool.noConfusion h⟩
  ·have he':k=t:=by omega
   subst he'
   have hL:Least INFN (N.le p costs s k) s k c:=hD.found (by rw [hfin]; exact hqk) (fun b c' hb=>hmin b c' (by rw [hfin] at hb; exact hb))
   have bf6':Bk h6 bf ((List.range N.na).map fun b=>Value.int .i64 ((par b:Nat):Int)) 3:=by
    have:=bf6
    unfold parL at this
    rw [List.map_map] at this
    exact this
   refine aHops B6 G hp hs hkN bf6' hPr hdn (by omega) hqk hdt fun A n K hps h7 s7 hh7 k7=>⟨_,_,_,rfl,hK c A n K hps h7 (s7.mono fun b hb _=>by omega) (B6.nw.trans k7) (fun _=>⟨hL,fun _=>hh7⟩) (fun h=>absurd hws (Int.not_lt.2 h)) (fun h=>by omega) (by omega)⟩
  ·have hkt:k≠t:=fun e=>hne (by rw [e])
   obtain ⟨h8,s8,b8,z8,o8⟩:=st_one (v:=.bool true) dn6 (o:=0+k) (by unfold doneL; simpa using hkN) rfl
   have hdk:done k=none:=by
    have:=hD.wait k c (by rw [hfin]; exact hqk)
    exact this.2.2
   have dn8:Bk h8 h.next ((doneL (upd done k (some c)) N.na).map Value.bool) 4:=by
    rw [Nat.zero_add,← List.map_set] at b8
    unfold doneL at b8 ⊢
    rw [map_upd (c:=c) hkN] at b8
    exact b8
   have m68:Mt (fun b=>b=h.next) h6 h8:=⟨by omega,fun b _ hb=>o8 b hb⟩
   have B8:=B6.off m68 fun b hb=>by subst hb; exact ⟨by omega,p53,p54,p57⟩
   have R8:RA h0 q mp bf h.next hh N.na D5 (upd done k (some c)) (del w k) par h8:=by
    refine ⟨dn8,(o8 _ (Ne.symm p55)).trans bf6,⟨S5,H6.off m68 fun b hb e=>(hS5 b hb).2.2.2.2.2.1 e,fun b hb=>by have:=hS5 b hb; exact ⟨this.1,by omega,this.2.2⟩⟩,p51,by omega,p53,p54,p55,by omega,p57⟩
   refine ⟨k,rfl,hkN,h8,s8,aLevel B8 G hp hs ht hkN ⟨_,rfl,aNext B8 G O bc hC hco hsz hkN rfl fun A4 K4 A5 K5 ol pr D' h10 hR B10 s4 s5 m10 hd1 hd2=>⟨_,_,_,_,_,_,rfl,?_⟩⟩⟩
   have z10:=m10.next
   have hll:=hR.len
   have hlf:=hR.few
   obtain ⟨dn,hdnE⟩:∃ dn,dn=upd done k (some c):=⟨_,rfl⟩
   rw [← hdnE] at dn8
   have H10:HeapQA h10 S5 hh N.na (del w k):=(H6.off m68 fun b hb e=>(hS5 b hb).2.2.2.2.2.1 e).off m10 fun b hb e=>(hS5 b hb).2.2.2.1 e
   have dn10:=m10.bk (by omega) p54 dn8
   have bf10:=m10.bk (by omega) (Ne.symm P6) R8.bf_
   obtain ⟨st,hst_⟩:∃ st:Nat→(Nat→Option Nat) × (Nat→Nat),∀ j,st j=relaxL dn k (farP N c ol pr j) (del w k,par):=⟨_,fun _=>rfl⟩
   have st0:st 0=(del w k,par):=hst_ 0
   obtain ⟨E,hE⟩:∃ E:Nat→Prop,∀ b,E b↔(b<h0.next∨h8.next≤b∨D5 b)∧b<h10.next:=⟨_,fun _=>Iff.rfl⟩
   have s4':Sa cI E h10 A4 ol.length K4 (ints ol):=s4.mono fun b hb hlt=>(hE b).2 ⟨hb,hlt⟩
   have s5':Sa cI E h10 A5 ol.length K5 pr:=s5.mono fun b hb hlt=>(hE b).2 ⟨hb,hlt⟩
   have hS5E:∀ b,S5 b→¬ E b:=fun b hb he=>by
    have h1:=(hE b).1 he
    have h2:=hS5 b hb
    rcases h1.1 with h | h | h
    ·omega
    ·omega
    ·exact h2.2.2.2.2.2.2 h
   have hbfE:¬ E bf:=fun he=>by
    have h1:=(hE bf).1 he
    rcases h1.1 with h | h | h
    ·omega
    ·omega
    ·exact (B5.dlo bf h).2.2.2.2 rfl
   have hbfD:¬ D' bf:=fun he=>(B10.dlo bf he).2.2.2.2 rfl
   obtain ⟨J,hJ⟩:∃ J:Nat→Int→AH→Prop,∀ m x h',J m x h'↔∃ (j:Nat) (S:Nat→Prop),x=j∧j≤ol.length∧m=ol.length - j∧h10.next≤h'.next∧QA h0 N p g o C s t q mp bf cA cK D' h'∧HeapQA h' S hh N.na (st j).1∧(∀ b,S b→S5 b∨h10.next≤b)∧Bk h' bf ((parL (st j).2 N.na).map (Value.int .i64)) 3∧Bk h' h.next ((doneL dn N.na).map Value.bool) 4∧Sa cI E h' A4 ol.length K4 (ints ol)∧Sa cI E h' A5 ol.length K5 pr:=⟨_,fun _ _ _=>Iff.rfl⟩
   refine ⟨J,ol.length,(hJ _ _ _).2 ⟨0,S5,rfl,Nat.zero_le _,rfl,Nat.le_refl _,B10,by rw [st0]; exact H10,fun b hb=>.inl hb,by rw [st0]; exact bf10,dn10,s4',s5'⟩,fun m3 x8 h11 hj=>?_⟩
   obtain ⟨j,S,rfl,hj,rfl,hz11,B11,H11,hS11,bf11,dn11,t4,t5⟩:=(hJ _ _ _).1 hj
   have hSE:∀ b,S b→¬ E b:=fun b hb he=>(hS11 b hb).elim (fun h=>hS5E b h he) (fun h=>by have:=(hE b).1 he; omega)
   have hSo:∀ b,S b→h0.next≤b∧b≠q∧b≠mp∧b≠bf∧b≠h.next∧¬ D' b:=fun b hb=>by
    rcases hS11 b hb with h | h
    ·have h2:=hS5 b h
     exact ⟨h2.1,h2.2.2.1,h2.2.2.2.1,h2.2.2.2.2.1,h2.2.2.2.2.2.1,fun hd=>(hd2 b hd).elim h2.2.2.2.2.2.2 (fun h=>by omega)⟩
    ·exact ⟨by omega,by omega,by omega,by omega,by omega,fun hd=>by have:=(B10.dlo b hd).2.1; omega⟩
   refine ⟨fun hlt=>?_,fun hge=>?_⟩
   ·obtain ⟨b2,o2,x9,rfl,hF2,hb2,hx9,e9⟩:=t4.int (k:=j) (by omega)
    obtain ⟨b3,o3,x10,rfl,hF3,hb3,hx10,e10⟩:=t5.int (k:=j) (by omega)
    obtain ⟨bn,hbn,rfl⟩:∃ bn:Nat,ol[j]? = some bn∧x9=(bn:Int):=by
     unfold ints at hx9
     rw [List.getElem?_map] at hx9
     cases hv:ol[j]? with
     | none=>rw [hv] at hx9; cases hx9
     | some bn=>rw [hv] at hx9; exact ⟨bn,rfl,(Option.some.inj hx9).symm⟩
    have hbl:=hR.lt bn (List.mem_of_getElem? hbn)
    have hx:=hR.nn x10 (List.mem_of_getElem? hx10)
    have hw:=NetD.w_bd hok bn
    have hsum:=sum3 (c:=(c:Int)) (x:=x10) (w:=N.w bn) (by unfold INF INFN at *; omega) hx (by unfold INF at *; omega)
    have fin:∀ (h':AH) (S':Nat→Prop),Mt (fun b=>S b∨b=bf) h11 h'→(∀ b,S' b→S b∨h11.next≤b)→HeapQA h' S' hh N.na (st (j+1)).1→Bk h' bf ((parL (st (j+1)).2 N.na).map (Value.int .i64)) 3→∃ x:Int,IntKind.i64.wrap ((j:Int)+1)=x∧∃ m':Nat,m' < ol.length - j∧J m' x h':=fun h' S' mm hS' H' bf'=>by
     have hz:=mm.next
     refine ⟨((j+1:Nat):Int),by rw [Int.natCast_succ]; exact wr_ok (by omega) (by omega),ol.length - (j+1),by omega,(hJ _ _ _).2 ⟨j+1,S',rfl,by omega,rfl,by omega,B11.off mm fun b hb=>?_,H',fun b hb=>(hS' b hb).elim (hS11 b) (fun h=>.inr (by omega)),bf',mm.bk (by omega) (fun hs=>hs.elim (fun h=>(hSo _ h).2.2.2.2.1 rfl) (fun e=>p55 e)) dn11,t4.off mm fun b hb hs=>hs.elim (fun h=>hSE b h hb) (fun e=>hbfE (e ▸ hb)),t5.off mm fun b hb hs=>hs.elim (fun h=>hSE b h hb) (fun e=>hbfE (e ▸ hb))⟩⟩
     rcases hb with hb | rfl
     ·have:=hSo b hb
      exact ⟨this.1,this.2.1,this.2.2.1,this.2.2.2.2.2⟩
     ·exact ⟨P3,Ne.symm P5,Ne.symm P6,hbfD⟩
    refine ⟨j,rfl,b2,o2,rfl,by omega,_,e9,b3,o3,rfl,by omega,_,e10,_,ldC_of B11.blk rfl,aWeight (G.nw B11.nw) hbl ⟨_,rfl,e10,fun h13 e13=>?_⟩⟩
    obtain ⟨k13,g13,z13⟩:=news e13
    have same:st (j+1)=st j→∃ x:Int,IntKind.i64.wrap ((j:Int)+1)=x∧∃ m':Nat,m' < ol.length - j∧J m' x h13:=fun e=>fin h13 S (Mt.of k13) (fun b hb=>.inl hb) (by rw [e]; exact H11.nw k13) (by rw [e]; exact k13.bk (by omega) bf11)
    refine aSum (F:=fun b=>b=h11.next) (Sa.of_ints (k:=.i64) (xs:=[(c:Int),x10,N.w bn]) g13 rfl rfl (by omega)) (by omega) ⟨_,rfl,fun hlt2=>⟨bn,rfl,hbl,(dn bn).isSome,?_,fun hdt=>?_,fun hdf=>?_⟩,fun hge2=>same ?_⟩
    ·rw [ldC_bk (k13.bk (by omega) dn11),Nat.zero_add]
     simp [doneL,hbl]
    ·refine same ?_
     rw [hst_,hst_,farP_succ,farO,hbn,hx10]
     simp only
     rw [if_pos hlt2]
     show relaxL dn k (farP N c ol pr j ++ [_]) _=_
     rw [relax_snoc,relax1,if_neg (fun h=>by rw [h] at hdt; exact Bool.noConfusion hdt)]
    ·have hnn:dn bn=none:=by cases hd:dn bn with
      | none=>rfl
      | some y=>rw [hd] at hdf; exact Bool.noConfusion hdf
     have nx:st (j+1)=(putQ (st j).1 bn (sumI [(c:Int),x10,N.w bn]).toNat,if isPut (st j).1 bn (sumI [(c:Int),x10,N.w bn]).toNat then upd (st j).2 bn k else (st j).2):=by
      rw [hst_,hst_,farP_succ,farO,hbn,hx10]
      simp only
      rw [if_pos hlt2]
      show relaxL dn k (farP N c ol pr j ++ [_]) _=_
      rw [relax_snoc,relax1,if_pos hnn]
     refine hPut (H11.nw k13) hbl (by rw [hsum]; unfold INF at *; omega) (by rw [hsum]; unfold INF at *; omega) fun h15 S15 H15 m15 g15=>⟨_,rfl,fun hpt=>?_,fun hpf=>?_⟩
     ·have B15:=(B11.next k13).off m15 fun b hb=>by have:=hSo b hb; exact ⟨this.1,this.2.1,this.2.2.1,this.2.2.2.2.2⟩
      have z15:=m15.next
      have bf15:=m15.bk (by omega) (fun hs=>(hSo _ hs).2.2.2.1 rfl) (k13.bk (by omega) bf11)
      obtain ⟨h16,s16,b16,z16,o16⟩:=st_one (v:=.int .i64 (k:Int)) bf15 (o:=0+bn) (by simp [parL]; omega) rfl
      rw [Nat.zero_add,← List.map_set] at b16
      unfold parL at b16
      rw [map_par hbl] at b16
      have m16:Mt (fun b=>S b∨b=bf) h11 h16:=⟨by omega,fun b hb hn=>(o16 b (fun e=>hn (.inr e))).trans ((m15.get b (by omega) (fun hs=>hn (.inl hs))).trans (k13.get b hb))⟩
      refine ⟨_,_,_,ldC_of B15.blk rfl,bf,0,rfl,hbl,h16,s16,fin h16 S15 m16 (fun b hb=>(g15 b hb).elim .inl (fun h=>.inr (by omega))) ?_ ?_⟩
      ·rw [nx]
       refine H15.off (S':=fun b=>b=bf) ⟨by omega,fun b _ hn=>o16 b hn⟩ fun b hb e=>?_
       rcases g15 b hb with h | h
       ·exact (hSo b h).2.2.2.1 e
       ·omega
      ·rw [nx,hpt]
       exact b16
     ·refine fin h15 S15 ((Mt.of k13).trans m15 fun b hb _=>.inl hb) (fun b hb=>(g15 b hb).elim .inl (fun h=>.inr (by omega))) (by rw [nx]; exact H15) ?_
      rw [nx,hpf]
      exact m15.bk (by omega) (fun hs=>(hSo _ hs).2.2.2.1 rfl) (k13.bk (by omega) bf11)
    ·rw [hst_,hst_,farP_succ,farO,hbn,hx10]
     simp only
     rw [if_neg hge2]
     simp
   ·obtain rfl:j=ol.length:=by omega
    have hks:k=s∨done s≠none:=hst.elim (fun ⟨_,e⟩=>.inl (by
     rw [e] at hqk
     by_cases h:k=s
     ·exact h
     ·simp [h] at hqk)) .inr
    have hD':=hD.round (par:=par) hqk hcI hmin (farP N c ol pr ol.length) (fun b x _ he hx _=>hR.put hok hcI he hx) (fun b y hb _=>(hR.step hok hcI hb).2.2)
    have hP':=hPr.round hqk hdk (farP N c ol pr ol.length) (fun b y hb _ _=>(hR.step hok hcI hb).2.2) hks
    rw [← hdnE,← hst_] at hD' hP'
    have hcnt:=cntD_upd (c:=c) hdk N.na hkN
    have hclt:=cntD_lt hdk hkN
    rw [← hcnt,← hdnE] at hP'
    rw [← hdnE] at hcnt
    refine ⟨N.na - cntD dn N.na,by omega,dn,(st ol.length).1,(st ol.length).2,_,D',B11,⟨dn11,bf11,⟨S,H11,fun b hb=>?_⟩,by omega,by omega,by omega,by omega,by omega,by omega,fun hd=>?_⟩,hD',hP',fun b y hb=>?_,fun a y ha=>?_,?_,.inr ?_,rfl,by omega⟩
    ·have:=hSo b hb
     have hlt:b<h11.next:=by
      obtain ⟨row,costs',A',K',Bc,Bs,seats,-,-,-,q4⟩:=H11
      exact q4 b hb
     exact ⟨this.1,hlt,this.2.1,this.2.2.1,this.2.2.2.1,this.2.2.2.2.1,this.2.2.2.2.2⟩
    ·exact (hd2 _ hd).elim p57 (fun h=>by omega)
    ·rw [hst_] at hb
     rcases relax_inv _ _ hb with ⟨h3,-⟩ | ⟨-,h4,-⟩
     ·simp only [del] at h3
      by_cases e:b=k
      ·simp [e] at h3
      ·rw [if_neg e] at h3; exact hwI b y h3
     ·exact (hR.step hok hcI h4).1
    ·rw [hdnE] at ha
     simp only [upd] at ha
     by_cases e:a=k
     ·omega
     ·rw [if_neg e] at ha; exact hdn a y ha
    ·rw [hdnE]
     simp only [upd]
     rw [if_neg (Ne.symm hkt)]
     exact hdt
    ·rw [hdnE]
     simp only [upd]
     rcases hks with e | e
     ·rw [if_pos e.symm]; intro h; cases h
     ·split
      ·intro h; cases h
      ·exact e
end
end Eva
end
section
open Go Go.RowKit
def winB (N:NetD) (p:List (List Int)) (k c b:Nat):Bool:=decide (cel p k (N.fr b)=c) && decide (cel p k (N.to b)=c)
namespace Eva
def Bx (h:AH) (b:Nat) (c:List Value):Prop:=∃ t,Bk h b c t
theorem Bx.ld {h:AH} {b o:Nat} {c:List Value} {v:Value} (x:Bx h b c) (e:c[o]? = some v):ldC h b o=some v:=by
 obtain ⟨t,x⟩:=x
 exact ldC_of x e
theorem Bx.same {h h':AH} {b:Nat} {c:List Value} (x:Bx h b c) (e:h'.get b=h.get b):Bx h' b c:=by
 obtain ⟨t,x⟩:=x
 exact ⟨t,e.trans x⟩
structure IA (h0:AH) (N:NetD) (p:List (List Int)) (k c g t M gb tb mb fb bb hb db D hp:Nat) (S:Nat→Prop) (best:Nat) (done w:Nat→Option Nat) (h:AH):Prop where
 nw:Nw h0 h
 bg:Bx h gb [.pointer (some ⟨g,0,none⟩)]
 bt:Bx h tb [.int .i64 (t:Int)]
 bm:Bx h mb [.slice (some ⟨M,0,none⟩) N.nv (cx N.nv)]
 bM:Bx h M ((marksL p k c N.nv).map Value.bool)
 bf:Bx h fb [.func (.func 29) #[] #[.pointer (some ⟨mb,0,none⟩)]]
 bbest:Bx h bb [.int .i64 (best:Int)]
 bh:Bx h hb [.pointer (some ⟨hp,0,none⟩)]
 bd:Bx h db [.slice (some ⟨D,0,none⟩) N.na (cx N.na)]
 bD:Bx h D ((doneL done N.na).map Value.bool)
 lo:h0.next≤gb∧h0.next≤tb∧h0.next≤mb∧h0.next≤fb∧h0.next≤bb∧h0.next≤hb∧h0.next≤db∧h0.next≤D∧M<h0.next
 lt:gb<h.next∧tb<h.next∧mb<h.next∧fb<h.next∧bb<h.next∧hb<h.next∧db<h.next∧D<h.next
 ne:bb≠gb∧bb≠tb∧bb≠mb∧bb≠fb∧bb≠hb∧bb≠db∧bb≠D∧D≠gb∧D≠tb∧D≠mb∧D≠fb∧D≠hb∧D≠db
 heap:HeapQA h S hp N.na w
 sep:∀ b,S b→h0.next≤b∧b<h.next∧b≠gb∧b≠tb∧b≠mb∧b≠fb∧b≠bb∧b≠hb∧b≠db∧b≠D
section
variable {h h' h0:AH} {Q:Value→AH→Prop} {Fa F:Nat→Prop} {N:NetD} {p:List (List Int)} {k c g t M gb tb mb fb bb hb db D hp:Nat} {S S':Nat→Prop} {best:Nat} {done w w':Nat→Option Nat}
theorem IA.off (B:IA h0 N p k c g t M gb tb mb fb bb hb db D hp S best done w h) (m:Mt S h h') (H:HeapQA h' S' hp N.na w') (hS:∀ b,S' b→(S b∨h.next≤b)∧b<h'.next):IA h0 N p k c g t M gb tb mb fb bb hb db D hp S' best done w' h':=by
 obtain ⟨l1,l2,l3,l4,l5,l6,l7,l8,l9⟩:=B.lo
 obtain ⟨t1,t2,t3,t4,t5,t6,t7,t8⟩:=B.lt
 have z:=m.next
 have z0:=B.nw.next
 have kp:∀ {b},b<h.next→¬ S b→h'.get b=h.get b:=fun hb hn=>m.get _ hb hn
 refine ⟨m.is_nw B.nw fun b hb=>(B.sep b hb).1,B.bg.same (kp t1 fun h=>(B.sep _ h).2.2.1 rfl),B.bt.same (kp t2 fun h=>(B.sep _ h).2.2.2.1 rfl),B.bm.same (kp t3 fun h=>(B.sep _ h).2.2.2.2.1 rfl),B.bM.same (kp (by omega) fun h=>by have:=(B.sep _ h).1; omega),B.bf.same (kp t4 fun h=>(B.sep _ h).2.2.2.2.2.1 rfl),B.bbest.same (kp t5 fun h=>(B.sep _ h).2.2.2.2.2.2.1 rfl),B.bh.same (kp t6 fun h=>(B.sep _ h).2.2.2.2.2.2.2.1 rfl),B.bd.same (kp t7 fun h=>(B.sep _ h).2.2.2.2.2.2.2.2.1 rfl),B.bD.same (kp t8 fun h=>(B.sep _ h).2.2.2.2.2.2.2.2.2 rfl),B.lo,by omega,B.ne,H,fun b hb=>?_⟩
 obtain ⟨h1,h2⟩:=hS b hb
 rcases h1 with h1 | h1
 ·have:=B.sep b h1
  exact ⟨this.1,h2,this.2.2⟩
 ·exact ⟨by omega,h2,by omega,by omega,by omega,by omega,by omega,by omega,by omega,by omega⟩
theorem IA.next (B:IA h0 N p k c g t M gb tb mb fb bb hb db D hp S best done w h) (a:Nw h h'):IA h0 N p k c g t M gb tb mb fb bb hb db D hp S best done w h':=
 B.off (Mt.of a) (B.heap.nw a) fun b hb=>⟨.inl hb,by have:=(B.sep b hb).2.1; have:=a.next; omega⟩
theorem IA.setBest (B:IA h0 N p k c g t M gb tb mb fb bb hb db D hp S best done w h) (v:Nat):∃ h',stC h bb 0 [.int .i64 (v:Int)]=some h'∧Mt (fun z=>z=bb) h h'∧IA h0 N p k c g t M gb tb mb fb bb hb db D hp S v done w h':=by
 obtain ⟨n1,n2,n3,n4,n5,n6,n7,-⟩:=B.ne
 obtain ⟨ty,b0⟩:=B.bbest
 obtain ⟨l1,l2,l3,l4,l5,l6,l7,l8,l9⟩:=B.lo
 obtain ⟨h',s1,b1,z1,o1⟩:=st_one (v:=.int .i64 (v:Int)) b0 (o:=0) (by simp) rfl
 have kp:∀ {b},bb≠b→h'.get b=h.get b:=fun hn=>o1 _ (Ne.symm hn)
 have m:Mt (fun z=>z=bb) h h':=⟨by omega,fun z _ hz=>o1 z hz⟩
 have:=B.lt
 refine ⟨h',s1,m,m.is_nw B.nw fun b hb=>by omega,B.bg.same (kp n1),B.bt.same (kp n2),B.bm.same (kp n3),B.bM.same (kp (by omega)),B.bf.same (kp n4),⟨ty,b1⟩,B.bh.same (kp n5),B.bd.same (kp n6),B.bD.same (kp n7),B.lo,by omega,B.ne,B.heap.off m fun b hb e=>(B.sep b hb).2.2.2.2.2.2.1 e,fun b hb=>by have:=B.sep b hb; exact ⟨this.1,by omega,this.2.2⟩⟩
theorem eqokF (g b:Nat):EqOk (.func (.func g) #[] #[.pointer (some ⟨b,0,none⟩)]):=⟨fun v hv=>by simp at hv,fun v hv=>by
 simp at hv
 subst hv
 rfl⟩
theorem aMarked (bm:Bx h mb [.slice (some ⟨M,0,none⟩) N.nv (cx N.nv)]) (bM:Bx h M ((marksL p k c N.nv).map Value.bool)) {v:Nat} (hv:v<N.nv) (hK:Q (.bool (decide (cel p k v=c))) h):WC Tryz.prog 29 [.int .i64 v,.pointer (some ⟨mb,0,none⟩)] h Q:=by
 refine w_walk_Inside_1 ⟨fun _=>⟨mb,0,rfl,_,_,_,bm.ld rfl,fun _=>⟨_,_,_,bm.ld rfl,v,rfl,M,0,rfl,hv,_,bM.ld ?_,hK⟩,fun h=>absurd h (by omega)⟩,fun h=>absurd h (by omega)⟩
 rw [Nat.zero_add]
 simp [marksL,hv]
theorem aStep (G:GrA h0 Fa F g N) (B:IA h0 N p k c g t M gb tb mb fb bb hb db D hp S best done w h) {a cst:Nat} {z:Nat} {par:Nat→Nat} (ha:a<N.na) (hc:cst<INFN) (hbest:best≤INFN)
  (hK:∀ (S':Nat→Prop) (h':AH),IA h0 N p k c g t M gb tb mb fb bb hb db D hp S' (bestP N t a cst best (N.from_ (N.to a)) (N.from_ (N.to a)).length) done (relaxL done z (inP N (winB N p k c) a cst (N.from_ (N.to a)) (N.from_ (N.to a)).length) (w,par)).1 h'→Q (.tuple #[]) h') :
  WC Tryz.prog 32 [.int .i64 a,.int .i64 cst,.pointer (some ⟨gb,0,none⟩),.pointer (some ⟨tb,0,none⟩),.pointer (some ⟨bb,0,none⟩),.pointer (some ⟨db,0,none⟩),.pointer (some ⟨fb,0,none⟩),.pointer (some ⟨hb,0,none⟩)] h Q:=by
 have ok:=G.ok
 have hto:=(NetD.to_lt ok ha).1
 have hna:=G.few.2
 obtain ⟨ol,hol⟩:∃ ol,N.from_ (N.to a)=ol:=⟨_,rfl⟩
 rw [hol] at hK
 have hll:ol.length≤1000:=by rw [← hol]; exact Nat.le_trans (takeN_len _ _) hna
 have hlt_:∀ b∈ol,b<N.na:=fun b hb=>by rw [← hol] at hb; exact ((NetD.mem_from ok).1 hb).1
 refine w_walk_Inside_2 ⟨gb,0,rfl,_,B.bg.ld rfl,_,B.bg.ld rfl,aTo (G.nw B.nw) ha ⟨_,rfl,B.bg.ld rfl,rfl,aOuts (G.nw B.nw) hto fun A1 K1 h2 s2 k2=>?_⟩⟩
 rw [hol] at s2 ⊢
 have z0:=B.nw.next
 refine ⟨_,_,_,rfl,?_⟩
 obtain ⟨st,hst⟩:∃ st:Nat→(Nat→Option Nat) × (Nat→Nat),∀ j,st j=relaxL done z (inP N (winB N p k c) a cst ol j) (w,par):=⟨_,fun _=>rfl⟩
 obtain ⟨J,hJ⟩:∃ J:Nat→Int→AH→Prop,∀ m x h',J m x h'↔∃ (j:Nat) (S':Nat→Prop),x=j∧j≤ol.length∧m=ol.length - j∧h2.next≤h'.next∧IA h0 N p k c g t M gb tb mb fb bb hb db D hp S' (bestP N t a cst best ol j) done (st j).1 h'∧(∀ b,S' b→S b∨h2.next≤b)∧Sa cI (fun b=>h.next≤b∧b<h2.next) h' A1 ol.length K1 (ints ol):=⟨_,fun _ _ _=>Iff.rfl⟩
 refine ⟨J,ol.length,(hJ _ _ _).2 ⟨0,S,rfl,Nat.zero_le _,rfl,Nat.le_refl _,?_,fun b hb=>.inl hb,s2.mono fun b hb hlt=>⟨hb,hlt⟩⟩,fun m x h3 hj=>?_⟩
 ·have e:(st 0).1=w:=by rw [hst,inP_zero]; rfl
  rw [e,bestP_zero]
  exact B.next k2
 obtain ⟨j,S3,rfl,hj,rfl,hz3,B3,hS3,s3⟩:=(hJ _ _ _).1 hj
 refine ⟨fun hlt=>?_,fun hge=>?_⟩
 ·obtain ⟨b2,o2,x5,hA,⟨hb1,hb2⟩,-,hx5,e5⟩:=s3.int (k:=j) (by omega)
  obtain ⟨bn,hbn,rfl⟩:∃ bn:Nat,ol[j]? = some bn∧x5=(bn:Int):=by
   unfold ints at hx5
   rw [List.getElem?_map] at hx5
   cases hv:ol[j]? with
   | none=>rw [hv] at hx5; cases hx5
   | some bn=>rw [hv] at hx5; exact ⟨bn,rfl,(Option.some.inj hx5).symm⟩
  have hbl:=hlt_ bn (List.mem_of_getElem? hbn)
  have hfr:=(NetD.fr_lt ok hbl).1
  have htb:=(NetD.to_lt ok hbl).1
  have htn:=NetD.turn_bd ok a bn
  have hw:=NetD.w_bd ok bn
  have nb:=bestP_succ (N:=N) (a:=a) (c:=cst) (t:=t) (v:=best) hbn
  have np:=inP_succ (N:=N) (P:=winB N p k c) (a:=a) (c:=cst) hbn
  have fin:∀ (h':AH) (S':Nat→Prop),h3.next≤h'.next→(∀ z,h.next≤z→z<h2.next→h'.get z=h3.get z)→IA h0 N p k c g t M gb tb mb fb bb hb db D hp S' (bestP N t a cst best ol (j+1)) done (st (j+1)).1 h'→(∀ b,S' b→S3 b∨h3.next≤b)→WR ((j:Int)+1) fun x=>RE (ol.length - j) (J · x h'):=fun h' S' hz hg B' hS'=>
   ⟨((j+1:Nat):Int),by rw [Int.natCast_succ]; exact wr_ok (by omega) (by omega),ol.length - (j+1),by omega,(hJ _ _ _).2 ⟨j+1,S',rfl,by omega,rfl,by omega,B',fun b hb=>(hS' b hb).elim (hS3 b) (fun h=>.inr (by omega)),s3.keep (fun b hb _=>hg b hb.1 hb.2) hz⟩⟩
  have st_none:inO N (winB N p k c) a cst bn=none→(st (j+1)).1=(st j).1:=fun e=>by
   rw [hst,hst,np,e]
   simp
  have st_some:∀ y,inO N (winB N p k c) a cst bn=some (bn,y)→st (j+1)=relax1 done z (st j) (bn,y):=fun y e=>by
   rw [hst,hst,np,e]
   show relaxL done z (inP N (winB N p k c) a cst ol j ++ [_]) _=_
   rw [relax_snoc]
  refine ⟨j,rfl,b2,o2,hA,by omega,_,e5,_,B3.bg.ld rfl,aTurn (G.nw B3.nw) ha hbl fun h4 k4=>⟨_,rfl,fun hinf=>?_,fun hninf=>?_⟩⟩
  ·have hnt:¬ N.turn a bn<INF:=by unfold INF; omega
   refine fin h4 S3 k4.next (fun z hz1 hz2=>k4.get z (by omega)) ?_ fun b hb=>.inl hb
   have e1:bestP N t a cst best ol (j+1)=bestP N t a cst best ol j:=by rw [nb]; unfold bestO; rw [if_neg (fun h=>hnt h.1)]
   rw [e1,st_none (by unfold inO; rw [if_neg (fun h=>hnt h.1)])]
   exact B3.next k4
  have hlt2:N.turn a bn<INF:=by unfold INF at *; omega
  have z4:=k4.next
  have rest:∀ (h6:AH),h4.next≤h6.next→(∀ z,h.next≤z→z<h2.next→h6.get z=h4.get z)→IA h0 N p k c g t M gb tb mb fb bb hb db D hp S3 (bestP N t a cst best ol (j+1)) done (st j).1 h6 →
    LP h6 gb 0 fun p10=>CI 36 [.pointer p10,.int .i64 (bn:Int)] h6 fun x12 h7=>TS (x12=1152921504606846976) (WR ((j:Int)+1) fun x13=>RE (ol.length - j) (J · x13 h7))
     (AQ (some ⟨db,0,none⟩) fun b_5 o_5=>LZ h7 b_5 o_5 fun A2 n2 K2=>NK (bn:Int) fun k2=>AQ A2 fun b_6 o_6=>k2<n2∧∃ b1,ldC h7 b_6 (o_6+k2)=some (.bool b1)∧BS b1 (WR ((j:Int)+1) fun x14=>RE (ol.length - j) (J · x14 h7))
      (AQ (some ⟨fb,0,none⟩) fun b_7 o_7=>∃ g1 fb1,ldC h7 b_7 o_7=some (.func (.func g1) #[] fb1)∧LP h7 gb 0 fun p11=>CI 37 [.pointer p11,.int .i64 (k2:Int)] h7 fun x15 h8=>ldC h8 b_7 o_7=some (.func (.func g1) #[] fb1)∧EqOk (.func (.func g1) #[] fb1)∧goesTo Tryz.prog g1=true∧WC Tryz.prog g1 ([.int .i64 x15] ++ Array.toList fb1) h8
       (fun v5 h9=>∃ b2,v5 = .bool b2∧BS b2
        (∃ g2 fb2,ldC h9 b_7 o_7=some (.func (.func g2) #[] fb2)∧LP h9 gb 0 fun p12=>CI 28 [.pointer p12,.int .i64 (k2:Int)] h9 fun x16 h10=>ldC h10 b_7 o_7=some (.func (.func g2) #[] fb2)∧EqOk (.func (.func g2) #[] fb2)∧goesTo Tryz.prog g2=true∧WC Tryz.prog g2 ([.int .i64 x16] ++ Array.toList fb2) h10
         (fun v3 h11=>∃ b3,v3 = .bool b3∧BS b3
          (AQ (some ⟨hb,0,none⟩) fun b_8 o_8=>LP h11 b_8 o_8 fun p13=>NW h11 (.cells [.int .i64 (cst:Int),.int .i64 (N.turn a bn),.int .i64 x12] 2 false) fun h12=>CI 39 [.slice (some ⟨h11.next,0,none⟩) 3 6] h12 fun x17 h13=>ldC h13 b_8 o_8=some (.pointer p13)∧EqOk (.pointer p13)∧CB 38 [.pointer p13,.int .i64 (k2:Int),.int .i64 x17] h13 fun b4 h14=>WR ((j:Int)+1) fun x18=>RE (ol.length - j) (J · x18 h14)) (WR ((j:Int)+1) fun x19=>RE (ol.length - j) (J · x19 h11)))) (WR ((j:Int)+1) fun x20=>RE (ol.length - j) (J · x20 h9))))):=by
   intro h6 hz6 hg6 B6
   have same:(st (j+1)).1=(st j).1→WR ((j:Int)+1) fun x=>RE (ol.length - j) (J · x h6):=fun e=>
    fin h6 S3 (by omega) (fun z hz1 hz2=>(hg6 z hz1 hz2).trans (k4.get z (by omega))) (by rw [e]; exact B6) fun b hb=>.inl hb
   refine ⟨_,B6.bg.ld rfl,aWeight (G.nw B6.nw) hbl ⟨_,rfl,fun hwi=>same (st_none ?_),fun hwn=>?_⟩⟩
   ·unfold inO; rw [if_neg]; intro h; unfold INF at *; omega
   refine ⟨db,0,rfl,_,_,_,B6.bd.ld rfl,bn,rfl,D,0,rfl,hbl,(done bn).isSome,B6.bD.ld ?_,fun hdt=>same ?_,fun hdf=>?_⟩
   ·rw [Nat.zero_add]
    simp [doneL,hbl]
   ·cases hi:inO N (winB N p k c) a cst bn with
    | none=>exact st_none hi
    | some y=>
     obtain ⟨y1,y2⟩:=y
     have:y1=bn:=by
      unfold inO at hi
      split at hi
      ·have:=Option.some.inj hi
       injection this with e _
       exact e.symm
      ·cases hi
     subst this
     rw [st_some _ hi,relax1,if_neg]
     intro h
     rw [h] at hdt
     cases hdt
   have hnn:done bn=none:=by
    cases hd:done bn with
    | none=>rfl
    | some y=>rw [hd] at hdf; cases hdf
   have gt:goesTo Tryz.prog 29=true:=by kernel_rfl
   refine ⟨fb,0,rfl,_,_,B6.bf.ld rfl,_,B6.bg.ld rfl,aFrom (G.nw B6.nw) hbl ⟨_,rfl,B6.bf.ld rfl,eqokF _ _,gt,aMarked B6.bm B6.bM hfr ⟨_,rfl,fun hm1=>?_,fun hm1=>same (st_none ?_)⟩⟩⟩
   ·refine ⟨_,_,B6.bf.ld rfl,_,B6.bg.ld rfl,aTo (G.nw B6.nw) hbl ⟨_,rfl,B6.bf.ld rfl,eqokF _ _,gt,aMarked B6.bm B6.bM htb ⟨_,rfl,fun hm2=>?_,fun hm2=>same (st_none ?_)⟩⟩⟩
    ·refine ⟨hb,0,rfl,_,B6.bh.ld rfl,fun h12 e12=>?_⟩
     obtain ⟨k12,g12,z12⟩:=news e12
     have B12:=B6.next k12
     have hs3:=sum3 (c:=(cst:Int)) (x:=N.turn a bn) (w:=N.w bn) (by unfold INF INFN at *; omega) (by unfold INF at *; omega) (by unfold INF at *; omega)
     refine aSum (F:=fun b=>b=h6.next) (Sa.of_ints (k:=.i64) (xs:=[(cst:Int),N.turn a bn,N.w bn]) g12 rfl rfl (by omega)) (by omega) ⟨_,rfl,B12.bh.ld rfl,rfl,hPut B12.heap hbl (by rw [hs3]; unfold INF at *; omega) (by rw [hs3]; unfold INF at *; omega) fun h15 S15 H15 m15 g15=>⟨_,rfl,?_⟩⟩
     have hin:inO N (winB N p k c) a cst bn=some (bn,(sumI [(cst:Int),N.turn a bn,N.w bn]).toNat):=by
      unfold inO
      rw [if_pos ⟨hlt2,by unfold INF at *; omega,by unfold winB; rw [hm1,hm2]; rfl⟩]
     have nx:=st_some _ hin
     rw [relax1,if_pos hnn] at nx
     have z15:=m15.next
     have hlt15:∀ b,S15 b→b<h15.next:=fun b hb=>by
      obtain ⟨row,costs',A',K',Bc,Bs,seats,-,-,-,q4⟩:=H15
      exact q4 b hb
     refine fin h15 S15 (by omega) (fun z hz1 hz2=>?_) (B12.off m15 (by rw [nx]; exact H15) fun b hb=>⟨(g15 b hb).imp id fun h=>h.1,hlt15 b hb⟩) fun b hb=>(g15 b hb).imp id fun h=>by omega
     refine (m15.get z (by omega) (fun hs=>?_)).trans ((k12.get z (by omega)).trans ((hg6 z hz1 hz2).trans (k4.get z (by omega))))
     rcases hS3 z hs with h | h
     ·have:=(B.sep z h).2.1; omega
     ·omega
    ·unfold inO; rw [if_neg]; intro h; have:=h.2.2; unfold winB at this; rw [hm2] at this; simp at this
   ·unfold inO; rw [if_neg]; intro h; have:=h.2.2; unfold winB at this; rw [hm1] at this; simp at this
  have B4:=B3.next k4
  refine ⟨tb,0,rfl,_,B4.bt.ld rfl,fun het=>?_,fun hnt=>?_⟩
  ·have het':bn=t:=by omega
   have e1:=addI_of (c:=(cst:Int)) (x:=N.turn a bn) (by unfold INF INFN at *; omega) (by unfold INF at *; omega)
   have e2:bestP N t a cst best ol (j+1)=min (bestP N t a cst best ol j) (addI (cst:Int) (N.turn a bn)).toNat:=by rw [nb]; unfold bestO; rw [if_pos ⟨hlt2,het'⟩]
   obtain ⟨h6,s6,m6,B6⟩:=B4.setBest (bestP N t a cst best ol (j+1))
   have hmin:(if (addI (cst:Int) (N.turn a bn))<((bestP N t a cst best ol j:Nat):Int) then addI (cst:Int) (N.turn a bn) else ((bestP N t a cst best ol j:Nat):Int))=((bestP N t a cst best ol (j+1):Nat):Int):=by
    rw [e2,e1]
    unfold INF INFN at *
    split <;> omega
   refine ⟨bb,0,rfl,_,B4.bbest.ld rfl,aAdd _ _ ⟨_,rfl,B4.bbest.ld rfl,_,hmin,h6,s6,rest h6 m6.next (fun z hz1 hz2=>m6.get z (by omega) (by have:=B.lt; omega)) B6⟩⟩
  ·have e1:bestP N t a cst best ol (j+1)=bestP N t a cst best ol j:=by rw [nb]; unfold bestO; rw [if_neg (fun h=>hnt (by rw [h.2]))]
   exact rest h4 (Nat.le_refl _) (fun _ _ _=>rfl) (by rw [e1]; exact B4)
 ·obtain rfl:j=ol.length:=by omega
  rw [hst] at B3
  exact hK S3 h3 B3
end
end Eva
end
section
open Go Go.RowKit
namespace Eva
section
variable {h h' h0:AH} {Q:Value→AH→Prop} {Fa F:Nat→Prop} {N:NetD} {p:List (List Int)} {k c g s t M:Nat}
theorem aInside (G:GrA h Fa F g N) (hp:PartOk N.nv p) (hM:Bk h M ((marksL p k c N.nv).map Value.bool) 4) (hMl:M<h.next) (hs:s<N.na) (ht:t<N.na)
  (hK:∀ (v:Nat) (h':AH),Nw h h'→v≤INFN→(∀ a x y,Within N.e (fun b=>winB N p k c b=true) s a x→N.tr a t=some y→v≤x+y)→(v<INFN→∃ a x y,Within N.e (fun b=>winB N p k c b=true) s a x∧N.tr a t=some y∧v=x+y)→Q (.int .i64 (v:Int)) h') :
  WC Tryz.prog 7 [.pointer (some ⟨g,0,none⟩),.int .i64 s,.int .i64 t,.slice (some ⟨M,0,none⟩) N.nv (cx N.nv)] h Q:=by
 have ok:=G.ok
 have hna:=G.few.2
 have hz:∀ a,N.e a N.na=none:=fun a=>by
  cases he:N.e a N.na with
  | none=>rfl
  | some x=>have:=(NetD.turn_in (NetD.e_some.1 he).1).2.1; omega
 refine w_walk_Inside fun h1 e1 h2 e2 h3 e3=>?_
 obtain ⟨k1,g1,z1⟩:=news e1
 obtain ⟨k2,g2,z2⟩:=news e2
 obtain ⟨k3,g3,z3⟩:=news e3
 have k03:=(k1.trans k2).trans k3
 have bg3:=(k2.trans k3).bk (by omega) g1
 have bt3:=k3.bk (by omega) g2
 refine ⟨_,ldC_of bg3 rfl,aTo (G.nw k03) hs ⟨_,rfl,fun h=>absurd h (by omega),fun _=>⟨_,ldC_of bg3 rfl,_,ldC_of bt3 rfl,aTo (G.nw k03) ht ⟨_,rfl,fun h=>absurd h (by omega),fun _ h6 e6=>?_⟩⟩⟩⟩
 obtain ⟨h7,s7,k7,g7,z7⟩:=box_st (vs:=[.func (.func 29) #[] #[.pointer (some ⟨h2.next,0,none⟩)]]) e6 rfl (by simp [flat])
 refine ⟨h7,s7,fun h8 e8=>?_⟩
 obtain ⟨h9,s9,k9,g9,z9⟩:=box_st (vs:=[.int .i64 1152921504606846976]) e8 rfl (by simp [flat])
 have k09:=(k03.trans k7).trans k9
 refine ⟨h9,s9,_,ldC_of ((k7.trans k9).bk (by omega) bg3) rfl,aArcs (G.nw k09) ⟨_,rfl,hNew N.na (by omega) fun h11 S11 hp_ H11 k11 hS11=>⟨_,rfl,fun h12 e12=>?_⟩⟩⟩
 obtain ⟨h13,s13,k13,g13,z13⟩:=box_st (vs:=[.pointer (some ⟨hp_,0,none⟩)]) e12 rfl (by simp [flat])
 have k013:=(k09.trans k11).trans k13
 have z11:=k11.next
 refine ⟨h13,s13,_,ldC_of ((((k7.trans k9).trans k11).trans k13).bk (by omega) bg3) rfl,aArcs (G.nw k013) ⟨_,rfl,N.na,rfl,by omega,fun h15 e15 h16 e16=>?_⟩⟩
 obtain ⟨k15,g15,z15⟩:=news e15
 obtain ⟨h17,s17,k17,g17,z17⟩:=box_st (vs:=[.slice (some ⟨h13.next,0,none⟩) N.na (cx N.na)]) e16 rfl (by simp [flat])
 have k1317:=k15.trans k17
 have k1117:=k13.trans k1317
 have k917:=k11.trans k1117
 have k317:=(k7.trans k9).trans k917
 have k017:=k03.trans k317
 rw [rep_one] at g15
 have S11lt:∀ b,S11 b→b<h11.next:=fun b hb=>by
  obtain ⟨row,costs',A',K',Bc,Bs,seats,-,-,-,q4⟩:=H11
  exact q4 b hb
 obtain ⟨z,hzz⟩:∃ z,N.na=z:=⟨_,rfl⟩
 have D0:doneL (upd (fun _=>none) z (some 0)) N.na=List.replicate N.na false:=by
  unfold doneL
  rw [List.map_congr_left (g:=fun _=>false) (fun a ha=>by
   have:a≠z:=by have:=List.mem_range.1 ha; omega
   simp [upd,this]),List.map_const',List.length_range]
 have B17:IA h N p k c g t M h.next h1.next h2.next h3.next h7.next h11.next h15.next h13.next hp_ S11 INFN (upd (fun _=>none) z (some 0)) (fun _=>none) h17:=by
  refine ⟨k017,⟨_,k317.bk (by omega) bg3⟩,⟨_,k317.bk (by omega) bt3⟩,⟨_,k317.bk (by omega) g3⟩,⟨_,k017.bk hMl hM⟩,⟨_,(k9.trans k917).bk (by omega) g7⟩,⟨_,k917.bk (by omega) g9⟩,⟨_,k1317.bk (by omega) g13⟩,⟨_,g17⟩,⟨4,?_⟩,by omega,by omega,by omega,H11.nw k1117,fun b hb=>?_⟩
  ·have:=k17.bk (by omega) g15
   rw [D0,List.map_replicate]
   exact this
  ·have h5:=hS11 b hb
   have h6:=S11lt b hb
   omega
 obtain ⟨eP,heP⟩:∃ eP,eP=inE N.e (winB N p k c) s z:=⟨_,rfl⟩
 have hsz:srcZ s z z=s:=by unfold srcZ; rw [if_pos rfl]
 have fini:∀ (v:Nat) (done w:Nat→Option Nat) (h':AH),Nw h h'→Best INFN N.tr s z t done v→Dij INFN eP z done (finQ INFN w)→(∀ b x,w b=some x→v≤x)→Q (.int .i64 (v:Int)) h':=fun v done w h' kk B D hq=>by
  rw [heP] at D
  have L:=B.law (by rw [← hzz]; exact hz) D hq
  exact hK v h' kk B.le L.1 L.2
 have Dz:Dij INFN eP z (fun _=>none) (finQ INFN fun b=>if b=z then some 0 else none):=by
  rw [finQ_first]; exact Dij.new (by unfold INFN; omega)
 have B0:Best INFN N.tr s z t (fun _=>none) INFN:=⟨Nat.le_refl _,fun a x y h=>by (cases h),fun h=>absurd h (Nat.lt_irrefl _)⟩
 have putR:∀ {kk cc:Nat} {dd:Nat→Option Nat} {w:Nat→Option Nat} {par:Nat→Nat},Dij INFN eP z dd (finQ INFN w)→w kk=some cc→cc<INFN→(∀ b c',w b=some c'→cc≤c') →
   Dij INFN eP z (upd dd kk (some cc)) (finQ INFN (relaxL (upd dd kk (some cc)) kk (inP N (winB N p k c) (srcZ s z kk) cc (N.from_ (N.to (srcZ s z kk))) (N.from_ (N.to (srcZ s z kk))).length) (del w kk,par)).1):=fun {kk cc dd w par} D hq hc hm=>
  D.round (par:=par) hq hc hm _ (fun b x _ he hx _=>inP_put ok hc rfl (by rw [← heP]; exact he) hx rfl) fun b y hb hy=>by
   rw [heP]; exact (inP_step ok hc rfl hb).2 hy
 have bestR:∀ {kk cc v:Nat} {dd:Nat→Option Nat},Best INFN N.tr s z t dd v→dd kk=none→cc<INFN→Best INFN N.tr s z t (upd dd kk (some cc)) (bestP N t (srcZ s z kk) cc v (N.from_ (N.to (srcZ s z kk))) (N.from_ (N.to (srcZ s z kk))).length):=fun {kk cc v dd} B hd hc=>
  B.round hd (bestP_end ok hc rfl)
 have P1:=putR (par:=fun _=>0) Dz (kk:=z) (by rw [if_pos rfl]) (by unfold INFN; omega) (fun b c' hb=>Nat.zero_le _)
 have P2:=bestR (kk:=z) (cc:=0) B0 rfl (by unfold INFN; omega)
 have hdel:del (fun b=>if b=z then some 0 else none) z=fun _=>none:=by
  funext b
  unfold del
  by_cases e:b=z <;> simp [e]
 rw [hsz] at P1 P2
 rw [hdel] at P1
 refine ⟨h17,s17,aStep G B17 (a:=s) (cst:=0) (z:=z) (par:=fun _=>0) hs (by unfold INFN; omega) (Nat.le_refl _) fun S18 h18 B18=>⟨rfl,?_⟩⟩
 refine ⟨fun m h19=>∃ (S:Nat→Prop) (best:Nat) (done w:Nat→Option Nat),IA h N p k c g t M h.next h1.next h2.next h3.next h7.next h11.next h15.next h13.next hp_ S best done w h19∧Best INFN N.tr s z t done best∧Dij INFN eP z done (finQ INFN w)∧(∀ a x,done a=some x→a≤N.na)∧m=N.na - cntD done N.na,N.na - cntD (upd (fun _=>none) z (some 0)) N.na,⟨S18,_,_,_,B18,P2,P1,fun a x h=>?_,rfl⟩,?_⟩
 ·simp only [upd] at h
  by_cases e:a=z
  ·omega
  ·rw [if_neg e] at h; cases h
 rintro m h19 ⟨S,best,done,w,B,BB,D,hdn,rfl⟩
 refine ⟨_,B.bh.ld rfl,hPop B.heap (fun hq=>?_) (fun a x h20 han hqa hmin H20 m20 z20=>?_)⟩
 ·exact ⟨_,_,_,rfl,fun h=>Bool.noConfusion h,fun _=>⟨_,B.bbest.ld rfl,fini best done w h19 B.nw BB D fun b x hb=>by rw [hq b] at hb; cases hb⟩⟩
 ·have B20:=B.off m20 H20 fun b hb=>⟨.inl hb,by have:=(B.sep b hb).2.1; omega⟩
  refine ⟨_,_,_,rfl,fun _=>⟨_,B20.bbest.ld rfl,fun hle=>⟨_,B20.bbest.ld rfl,fini best done w h20 B20.nw BB D fun b x' hb=>by have:=hmin b x' hb; omega⟩,fun hgt=>?_⟩,fun h=>Bool.noConfusion h⟩
  have hxI:x<INFN:=by have:=BB.le; omega
  have hda:done a=none:=(D.wait a x (finQ_some.2 ⟨hqa,hxI⟩)).2.2
  have haz:a≠z:=by omega
  have hsa:srcZ s z a=a:=by unfold srcZ; rw [if_neg haz]
  obtain ⟨ty,bD⟩:=B20.bD
  obtain ⟨l1,l2,l3,l4,l5,l6,l7,l8,l9⟩:=B20.lo
  have lt:=B20.lt
  obtain ⟨n1,n2,n3,n4,n5,n6,n7,n8,n9,n10,n11,n12,n13⟩:=B20.ne
  obtain ⟨h21,s21,b21,z21,o21⟩:=st_one (v:=.bool true) bD (o:=0+a) (by unfold doneL; simpa using han) rfl
  have m21:Mt (fun y=>y=h13.next) h20 h21:=⟨by omega,fun y _ hy=>o21 y hy⟩
  have B21:IA h N p k c g t M h.next h1.next h2.next h3.next h7.next h11.next h15.next h13.next hp_ S best (upd done a (some x)) (del w a) h21:=by
   refine ⟨m21.is_nw B20.nw fun b hb=>by omega,B20.bg.same (o21 _ (Ne.symm n8)),B20.bt.same (o21 _ (Ne.symm n9)),B20.bm.same (o21 _ (Ne.symm n10)),B20.bM.same (o21 _ (by omega)),B20.bf.same (o21 _ (Ne.symm n11)),B20.bbest.same (o21 _ n7),B20.bh.same (o21 _ (Ne.symm n12)),B20.bd.same (o21 _ (Ne.symm n13)),⟨ty,?_⟩,B20.lo,by omega,B20.ne,B20.heap.off m21 fun b hb e=>(B20.sep b hb).2.2.2.2.2.2.2.2.2 e,fun b hb=>by have:=B20.sep b hb; exact ⟨this.1,by omega,this.2.2⟩⟩
   rw [Nat.zero_add,← List.map_set] at b21
   unfold doneL at b21 ⊢
   rw [map_upd (c:=x) han] at b21
   exact b21
  have R1:=putR (par:=fun _=>0) D hqa hxI hmin
  have R2:=bestR (kk:=a) (cc:=x) BB hda hxI
  rw [hsa] at R1 R2
  have hcnt:=cntD_upd (c:=x) hda N.na han
  have hclt:=cntD_lt hda han
  refine ⟨_,_,_,B20.bd.ld rfl,a,rfl,h13.next,0,rfl,han,h21,s21,aStep G B21 (a:=a) (cst:=x) (z:=a) (par:=fun _=>0) han hxI BB.le fun S22 h22 B22=>⟨rfl,?_⟩⟩
  refine ⟨N.na - cntD (upd done a (some x)) N.na,by omega,S22,_,_,_,B22,R2,R1,fun b y hb=>?_,rfl⟩
  simp only [upd] at hb
  by_cases e:b=a
  ·omega
  ·rw [if_neg e] at hb; exact hdn b y hb
end
end Eva
end
section
open Go Go.RowKit
namespace Eva
section
variable {h:AH} {Q:Value→AH→Prop} {Fa F Fo:Nat→Prop} {N:NetD} {p:List (List Int)} {g o C s t:Nat} {costs:List Int}
theorem aDist (G:GrA h Fa F g N) (O:OvA h Fo o N p) (bc:Bk h C (costs.map (Value.int .i64)) 2) (hC:C<h.next) (hco:CostsOk N p costs) (hsz:N.size p<1000000) (hs:s<N.na) (ht:t<N.na)
  (hK:∀ (d:Nat) (h':AH),Nw h h'→(N.w s<INF→Least INFN N.e s t d)→(INF≤N.w s→d=INFN)→d≤INFN→Q (.tuple #[.int .i64 d,.nilIface]) h') :
  WC Tryz.prog 13 [.pointer (some ⟨g,0,none⟩),.pointer (some ⟨o,0,none⟩),.slice (some ⟨C,0,none⟩) (N.size p) (cx (N.size p)),.int .i64 s,.int .i64 t] h Q:=by
 have hlaw:∀ {d:Nat},Least INFN (N.le p costs s t) s t d→Least INFN N.e s t d:=fun hd=>((hco.entOk G.ok O.hp).leaps G.ok O.hp hs ht).law hd
 exact w_ask_Dist (w_ask_check (aArcs G ⟨_,rfl,fun h=>by omega,fun _=>⟨fun h=>by omega,fun _=>⟨fun h=>by omega,fun _=>⟨fun h=>by omega,fun _=>oSize O ⟨_,rfl,fun _=>⟨none,rfl,fun _=>aNewQuest G O fun q mp bf cA cK D h' B hbf=>⟨_,rfl,aRun B hbf G O bc hC hco hsz hs ht fun d A n K hops h2 s2 k2 h1 h3 h4 h5=>⟨_,_,_,_,rfl,hK d h2 k2 (fun hw=>hlaw (h1 hw).1) h3 h5⟩⟩,fun t u h=>by cases h⟩,fun h=>absurd rfl h⟩⟩⟩⟩⟩))
end
end Eva
end
section
open Go Go.RowKit
namespace Eva
def Rc.chg:Rc Chg where
 size:=5
 rel:=fun _ _ cs x=>cs = [.int .i64 x.1,.int .i64 x.2.1,.int .i64 x.2.2.1,.int .i64 x.2.2.2.1,.int .i64 x.2.2.2.2]
 len:=fun h=>by rw [h]; rfl
 flat:=fun h u hu=>by rw [h] at hu; simp at hu; rcases hu with rfl | rfl | rfl | rfl | rfl <;> rfl
 keep:=fun _ _ h=>h
 mono:=fun _ h=>h
abbrev cChg:Rc Chg:=Rc.chg
theorem free_chg:Free cChg:=fun h=>h
def chgL (x:Chg):List Value:=[.int .i64 x.1,.int .i64 x.2.1,.int .i64 x.2.2.1,.int .i64 x.2.2.2.1,.int .i64 x.2.2.2.2]
def chgV (x:Chg):Value:=.agg #[.int .i64 x.1,.int .i64 x.2.1,.int .i64 x.2.2.1,.int .i64 x.2.2.2.1,.int .i64 x.2.2.2.2]
theorem flat5 (x:Chg):∀ v∈chgL x,flat v=true:=by simp [chgL,flat]
section
variable {h h':AH} {F Fa:Nat→Prop} {Q:Value→AH→Prop} {A:Option Addr} {n K g:Nat} {N:NetD} {xs:List Chg} {ts:List Tab}
theorem Sz.chg (hs:Sz cChg F h A n K xs) {k:Nat} (hk:k<n):∃ b o x,A=some ⟨b,o,none⟩∧F b∧b<h.next∧xs[k]? = some x∧(∀ j u,(chgL x)[j]? = some u→ldC h b (o+k * 5+j)=some u)∧ldN h b (o+k * 5) 5=some (chgL x):=by
 obtain ⟨b,o,x,cs,hA,hF,hb,hx,hc,hr⟩:=hs.get hk
 have hr':cs=chgL x:=hr
 subst hr'
 have hc':∀ j u,(chgL x)[j]? = some u→ldC h b (o+k * 5+j)=some u:=fun j u hj=>by
  have:=hc j u hj
  simpa [Rc.chg,Nat.add_assoc] using this
 exact ⟨b,o,x,hA,hF,hb,hx,hc',ldN_of rfl (by decide) hc'⟩
theorem aWeightD (c:Int) (hK:Q (.bool (weightB c)) h):WC Tryz.prog 153 [.int .i64 c] h Q:=by
 by_cases hc:weightB c=true
 ·exact aWeightB hc (by rwa [hc] at hK)
 ·have hf:weightB c=false:=by simpa using hc
  rw [hf] at hK
  unfold weightB at hc
  have hc':¬ ((0≤c∧c≤2147483648)∨c=1152921504606846976):=by simpa using hc
  exact w_cost_Weight ⟨fun h1=>absurd h1 (by omega),fun h1=>⟨fun h2=>⟨fun h3=>absurd h3 (by omega),fun h3=>hK⟩,fun h2=>hK⟩⟩
theorem aIsTurn (x:Chg) (hs:Sa Rc.table F h A n K N.ts) (hK:∀ h',Nw h h'→Q (.bool (decide (N.isTurn x))) h') :
  WC Tryz.prog 216 [.slice A n K,chgV x] h Q:=by
 obtain ⟨kd,at_,ci,co,w⟩:=x
 have hln:=hs.len
 refine w_batch_isTurn fun h1 e1=>?_
 obtain ⟨k1,g1,z1⟩:=news e1
 have no:∀ {h'},Nw h h'→¬ N.isTurn (kd,at_,ci,co,w)→Q (.bool false) h':=fun a hn=>by have:=hK _ a; rwa [decide_eq_false hn] at this
 refine ⟨_,ldC_of g1 rfl,fun (hb:at_<0)=>no k1 fun ⟨q,_⟩=>by simp only at q; omega,fun (hb:¬ at_<0)=>⟨_,ldC_of g1 rfl,fun (hb2:(n:Int)≤at_)=>no k1 fun ⟨q,_⟩=>by simp only at q; omega,fun (hb2:¬ (n:Int)≤at_)=>⟨_,ldC_of g1 rfl,?_⟩⟩⟩
 obtain ⟨i,rfl⟩:∃ i:Nat,at_=i:=⟨at_.toNat,by omega⟩
 have hi:i<n:=by omega
 obtain ⟨b,o,u,v,A',n',K',zs,hA,hF,hlt,hx,l0,l1,l2,hs'⟩:=hs.table hi
 have ht:N.tb ((i:Int)).toNat=(u,v,zs):=by simp [NetD.tb,hx]
 have iff:N.isTurn (kd,(i:Int),ci,co,w)↔(0≤ci∧ci<u)∧(0≤co∧co<v):=by
  unfold NetD.isTurn
  simp only [ht]
  constructor
  ·rintro ⟨_,q⟩; exact q
  ·intro q; exact ⟨by omega,q⟩
 refine ⟨i,rfl,b,o,hA,hi,u,v,A',n',K',ldN3 ((k1.ldC hlt _).trans l0) ((k1.ldC hlt _).trans l1) ((k1.ldC hlt _).trans l2),fun h2 e2=>?_⟩
 obtain ⟨h3,s3,k3,g3,z3⟩:=box_st (vs:=[.int .i64 u,.int .i64 v,.slice A' n' K']) e2 rfl (flat3 rfl rfl rfl)
 have k13:=k1.trans k3
 have g13:=k3.bk (by omega) g1
 refine ⟨h3,s3,_,ldC_of g13 rfl,fun c1=>⟨_,ldC_of g13 rfl,_,ldC_of g3 rfl,fun c2=>⟨_,ldC_of g13 rfl,fun c3=>⟨_,ldC_of g13 rfl,_,ldC_of g3 rfl,fun c4=>?_,fun c4=>?_⟩,fun c3=>?_⟩,fun c2=>?_⟩,fun c1=>?_⟩
 ·have:=hK _ k13; rwa [decide_eq_true (iff.2 ⟨⟨c1,c2⟩,c3,c4⟩)] at this
 ·exact no k13 fun q=>c4 (iff.1 q).2.2
 ·exact no k13 fun q=>c3 (iff.1 q).2.1
 ·exact no k13 fun q=>c2 (iff.1 q).1.2
 ·exact no k13 fun q=>c1 (iff.1 q).1.1
theorem aLookAt (G:GrA h Fa F g N) {F2:Nat→Prop} (x:Chg) (hs:Sa Rc.table F2 h A n K N.ts) (hK:∀ h',Nw h h'→Q (.int .i64 (N.wrong x)) h') :
  WC Tryz.prog 149 [.pointer (some ⟨g,0,none⟩),.slice A n K,chgV x] h Q:=by
 obtain ⟨kd,at_,ci,co,w⟩:=x
 refine w_batch_lookAt fun h1 e1=>?_
 obtain ⟨k1,g1,z1⟩:=news e1
 have hlt1:h.next<h1.next:=by omega
 have q:∀ {h'} {v:Int},Nw h1 h'→N.wrong (kd,at_,ci,co,w)=v→Q (.int .i64 v) h':=fun a hv=>by have:=hK _ (k1.trans a); rwa [hv] at this
 have b:∀ {h'},Nw h1 h'→Bk h' h.next (chgL (kd,at_,ci,co,w)) 116:=fun a=>a.bk hlt1 g1
 have wt:∀ {h'},Nw h1 h'→(N.wrong (kd,at_,ci,co,w)=if weightB w=true then 0 else 8)→LI h' h.next 4 fun x20=>CB 153 [.int .i64 x20] h' fun b2 h4=>BS b2 (Q (.int .i64 0) h4) (Q (.int .i64 8) h4):=fun {h'} a hw=>
  ⟨w,ldC_of (b a) rfl,aWeightD w ⟨_,rfl,fun hb=>q a (by rw [hw,if_pos hb]),fun hb=>q a (by rw [hw,if_neg (by simp [hb])])⟩⟩
 have tl:∀ {h'},Nw h1 h'→(kd=2→(¬ N.isTurn (kd,at_,ci,co,w)→N.wrong (kd,at_,ci,co,w)=5)∧(N.isTurn (kd,at_,ci,co,w)→N.wrong (kd,at_,ci,co,w)=if weightB w=true then 0 else 8))→(kd≠2→N.wrong (kd,at_,ci,co,w)=if weightB w=true then 0 else 8) →
   LI h' h.next 0 fun x14=>TS (x14=2) (∃ x15 x16 x17 x18 x19,ldN h' h.next 0 5=some [.int .i64 x15,.int .i64 x16,.int .i64 x17,.int .i64 x18,.int .i64 x19]∧CB 216 [.slice A n K,.agg #[.int .i64 x15,.int .i64 x16,.int .i64 x17,.int .i64 x18,.int .i64 x19]] h' fun b1 h3=>BS b1 (LI h3 h.next 4 fun x20=>CB 153 [.int .i64 x20] h3 fun b2 h4=>BS b2 (Q (.int .i64 0) h4) (Q (.int .i64 8) h4)) (Q (.int .i64 5) h3)) (LI h' h.next 4 fun x21=>CB 153 [.int .i64 x21] h' fun b3 h5=>BS b3 (Q (.int .i64 0) h5) (Q (.int .i64 8) h5)):=fun {h'} a h2 hn2=>
  ⟨kd,ldC_of (b a) rfl,fun c=>⟨kd,at_,ci,co,w,ldN_bk (o:=0) (n:=5) (b a) (by simp [chgL]),aIsTurn (kd,at_,ci,co,w) (hs.nw (k1.trans a)) fun h3 k3=>⟨_,rfl,fun ht=>wt (a.trans k3) ((h2 c).2 (of_decide_eq_true ht)),fun ht=>q (a.trans k3) ((h2 c).1 (of_decide_eq_false ht))⟩⟩,fun c=>wt a (hn2 c)⟩
 have bs:¬ (kd=1∧(ci≠0∨co≠0))→(kd=1∨kd=2)→LI h1 h.next 0 fun x10=>TS (x10=1)
     (LI h1 h.next 1 fun x11=>TS (x11<0) (Q (.int .i64 5) h1)
      (LI h1 h.next 1 fun x12=>CI 31 [.pointer (some ⟨g,0,none⟩)] h1 fun x13 h2=>ldC h2 h.next 1=some (.int .i64 x12)∧TS (x13≤x12) (Q (.int .i64 5) h2)
       (LI h2 h.next 0 fun x14=>TS (x14=2) (∃ x15 x16 x17 x18 x19,ldN h2 h.next 0 5=some [.int .i64 x15,.int .i64 x16,.int .i64 x17,.int .i64 x18,.int .i64 x19]∧CB 216 [.slice A n K,.agg #[.int .i64 x15,.int .i64 x16,.int .i64 x17,.int .i64 x18,.int .i64 x19]] h2 fun b1 h3=>BS b1 (LI h3 h.next 4 fun x20=>CB 153 [.int .i64 x20] h3 fun b2 h4=>BS b2 (Q (.int .i64 0) h4) (Q (.int .i64 8) h4)) (Q (.int .i64 5) h3)) (LI h2 h.next 4 fun x21=>CB 153 [.int .i64 x21] h2 fun b3 h5=>BS b3 (Q (.int .i64 0) h5) (Q (.int .i64 8) h5)))))
     (LI h1 h.next 0 fun x14=>TS (x14=2) (∃ x15 x16 x17 x18 x19,ldN h1 h.next 0 5=some [.int .i64 x15,.int .i64 x16,.int .i64 x17,.int .i64 x18,.int .i64 x19]∧CB 216 [.slice A n K,.agg #[.int .i64 x15,.int .i64 x16,.int .i64 x17,.int .i64 x18,.int .i64 x19]] h1 fun b1 h3=>BS b1 (LI h3 h.next 4 fun x20=>CB 153 [.int .i64 x20] h3 fun b2 h4=>BS b2 (Q (.int .i64 0) h4) (Q (.int .i64 8) h4)) (Q (.int .i64 5) h3)) (LI h1 h.next 4 fun x21=>CB 153 [.int .i64 x21] h1 fun b3 h5=>BS b3 (Q (.int .i64 0) h5) (Q (.int .i64 8) h5))):=fun hz hk=>by
  refine ⟨kd,ldC_of g1 rfl,fun c=>⟨at_,ldC_of g1 rfl,fun c2=>q (Nw.refl _) ?_,fun c2=>⟨at_,ldC_of g1 rfl,aArcs (G.nw k1) ⟨_,rfl,ldC_of g1 rfl,fun c3=>q (Nw.refl _) ?_,fun c3=>tl (Nw.refl _) (fun h2=>absurd h2 (by omega)) fun _=>?_⟩⟩⟩,fun c=>tl (Nw.refl _) (fun h2=>⟨fun ht=>?_,fun ht=>?_⟩) fun h2=>absurd hk (by omega)⟩
  ·subst c; simp at hz; simp [NetD.wrong,hz,c2]
  ·subst c; simp at hz; simp [NetD.wrong,hz,c3]
  ·unfold NetD.wrong; dsimp only; rw [if_neg (by omega),if_neg hz,if_neg (by omega),if_neg (by rintro ⟨h,-⟩; omega)]
  ·subst h2; simp [NetD.wrong,ht]
  ·subst h2; simp [NetD.wrong,ht]
 have one:∀ v,N.wrong (kd,at_,ci,co,w)=v→v=1→Q (.int .i64 1) h1:=fun v hv e=>q (Nw.refl _) (by rw [hv,e])
 refine ⟨kd,ldC_of g1 rfl,fun c=>⟨kd,ldC_of g1 rfl,fun _=>⟨ci,ldC_of g1 rfl,fun c2=>⟨co,ldC_of g1 rfl,fun c3=>bs (fun hh=>by omega) (.inl c),fun c3=>q (Nw.refl _) (by simp [NetD.wrong,c,c2,c3])⟩,fun c2=>q (Nw.refl _) (by simp [NetD.wrong,c,c2])⟩,fun c1=>absurd c c1⟩,
  fun c=>⟨kd,ldC_of g1 rfl,fun c2=>⟨kd,ldC_of g1 rfl,fun c1=>absurd c1 c,fun _=>bs (fun hh=>c hh.1) (.inr c2)⟩,fun c2=>q (Nw.refl _) (by simp [NetD.wrong,c,c2])⟩⟩
end
end Eva
end
section
open Go
namespace Eva
structure FiveI (P:Program) (kt:TypeId) (f0 f1 f2 f3 f4:Field) (et e6:TypeId):Prop where
 u:P.underlying kt=some (.struct #[f0,f1,f2,f3,f4])
 st:P.stoodInHeld kt=false
 nm:f0.name≠ "_"∧f1.name≠ "_"∧f2.name≠ "_"∧f3.name≠ "_"∧f4.name≠ "_"
 ty:f0.type=et∧f1.type=et∧f2.type=et∧f3.type=et∧f4.type=e6
 off:f0.offset=0∧f1.offset=1∧f2.offset=2∧f3.offset=3∧f4.offset=4
theorem pureRun_prog {P:Program}:pureRun P program=some P:=rfl
set_option maxHeartbeats 1000000
theorem keyFive {P:Program} {kt et e6:TypeId} {f0 f1 f2 f3 f4:Field} {d d6:IntKind} {i i6:TypeInfo} (H:FiveI P kt f0 f1 f2 f3 f4 et e6) (he:P.underlying et=some (.int d)) (hi:P.info? et=some i) (he6:P.underlying e6=some (.int d6)) (hi6:P.info? e6=some i6):KeyOk P kt chgV where
 pl:=fun a=>by rfl
 eq:=fun a b=>by
  obtain ⟨a1,a2,a3,a4,a5⟩:=a
  obtain ⟨b1,b2,b3,b4,b5⟩:=b
  obtain ⟨hu,hst,⟨n0,n1,n2,n3,n4⟩,⟨t0,t1,t2,t3,t4⟩,⟨o0,o1,o2,o3,o4⟩⟩:=H
  show pureRun P (Op.equalIn (9999+1) kt (.agg #[.int .i64 a1,.int .i64 a2,.int .i64 a3,.int .i64 a4,.int .i64 a5]) (.agg #[.int .i64 b1,.int .i64 b2,.int .i64 b3,.int .i64 b4,.int .i64 b5]))=_
  unfold Op.equalIn
  rw [pureRun_bind,pureRun_und hu]
  simp only [Option.bind_some]
  rw [pureRun_bind,pureRun_prog]
  simp only [Option.bind_some,hst,Bool.false_eq_true,if_false]
  have e0:pureRun P (part et #[Value.int .i64 a1,.int .i64 a2,.int .i64 a3,.int .i64 a4,.int .i64 a5] 0)=some (.int .i64 a1):=pureRun_part he hi _ _ rfl
  have e1:pureRun P (part et #[Value.int .i64 a1,.int .i64 a2,.int .i64 a3,.int .i64 a4,.int .i64 a5] 1)=some (.int .i64 a2):=pureRun_part he hi _ _ rfl
  have e2:pureRun P (part et #[Value.int .i64 a1,.int .i64 a2,.int .i64 a3,.int .i64 a4,.int .i64 a5] 2)=some (.int .i64 a3):=pureRun_part he hi _ _ rfl
  have e3:pureRun P (part et #[Value.int .i64 a1,.int .i64 a2,.int .i64 a3,.int .i64 a4,.int .i64 a5] 3)=some (.int .i64 a4):=pureRun_part he hi _ _ rfl
  have e4:pureRun P (part e6 #[Value.int .i64 a1,.int .i64 a2,.int .i64 a3,.int .i64 a4,.int .i64 a5] 4)=some (.int .i64 a5):=pureRun_part he6 hi6 _ _ rfl
  have g0:pureRun P (part et #[Value.int .i64 b1,.int .i64 b2,.int .i64 b3,.int .i64 b4,.int .i64 b5] 0)=some (.int .i64 b1):=pureRun_part he hi _ _ rfl
  have g1:pureRun P (part et #[Value.int .i64 b1,.int .i64 b2,.int .i64 b3,.int .i64 b4,.int .i64 b5] 1)=some (.int .i64 b2):=pureRun_part he hi _ _ rfl
  have g2:pureRun P (part et #[Value.int .i64 b1,.int .i64 b2,.int .i64 b3,.int .i64 b4,.int .i64 b5] 2)=some (.int .i64 b3):=pureRun_part he hi _ _ rfl
  have g3:pureRun P (part et #[Value.int .i64 b1,.int .i64 b2,.int .i64 b3,.int .i64 b4,.int .i64 b5] 3)=some (.int .i64 b4):=pureRun_part he hi _ _ rfl
  have g4:pureRun P (part e6 #[Value.int .i64 b1,.int .i64 b2,.int .i64 b3,.int .i64 b4,.int .i64 b5] 4)=some (.int .i64 b5):=pureRun_part he6 hi6 _ _ rfl
  have k:∀ x y:Int,pureRun P (Op.equalIn 9999 et (.int .i64 x) (.int .i64 y))=some (x == y):=fun x y=>eqI he 9998 x y
  have k6:∀ x y:Int,pureRun P (Op.equalIn 9999 e6 (.int .i64 x) (.int .i64 y))=some (x == y):=fun x y=>eqI he6 9998 x y
  rw [← Array.forIn_toList]
  simp only [List.forIn_cons,List.forIn_nil]
  by_cases h1:a1=b1
  case neg=>simp [pureRun_bind,pureRun_ite,pureRun_pure,n0,t0,o0,e0,g0,k,h1]
  subst h1
  by_cases h2:a2=b2
  case neg=>simp [pureRun_bind,pureRun_ite,pureRun_pure,n0,t0,o0,e0,g0,n1,t1,o1,e1,g1,k,h2]
  subst h2
  by_cases h3:a3=b3
  case neg=>simp [pureRun_bind,pureRun_ite,pureRun_pure,n0,t0,o0,e0,g0,n1,t1,o1,e1,g1,n2,t2,o2,e2,g2,k,h3]
  subst h3
  by_cases h4:a4=b4
  case neg=>simp [pureRun_bind,pureRun_ite,pureRun_pure,n0,t0,o0,e0,g0,n1,t1,o1,e1,g1,n2,t2,o2,e2,g2,n3,t3,o3,e3,g3,k,h4]
  subst h4
  by_cases h5:a5=b5
  case neg=>simp [pureRun_bind,pureRun_ite,pureRun_pure,n0,t0,o0,e0,g0,n1,t1,o1,e1,g1,n2,t2,o2,e2,g2,n3,t3,o3,e3,g3,n4,t4,o4,e4,g4,k,k6,h5]
  subst h5
  simp [pureRun_bind,pureRun_ite,pureRun_pure,n0,t0,o0,e0,g0,n1,t1,o1,e1,g1,n2,t2,o2,e2,g2,n3,t3,o3,e3,g3,n4,t4,o4,e4,g4,k,k6]
 chk:=fun e a=>by
  obtain ⟨hu,hst,⟨n0,n1,n2,n3,n4⟩,⟨t0,t1,t2,t3,t4⟩,⟨o0,o1,o2,o3,o4⟩⟩:=H
  show (match pureRun P (Instr.checkKey e (9999+1) kt (.agg #[.int .i64 a.1,.int .i64 a.2.1,.int .i64 a.2.2.1,.int .i64 a.2.2.2.1,.int .i64 a.2.2.2.2])) with | some _=>true | none=>false)=true
  have e0:pureRun P (part et #[Value.int .i64 a.1,.int .i64 a.2.1,.int .i64 a.2.2.1,.int .i64 a.2.2.2.1,.int .i64 a.2.2.2.2] 0)=some (.int .i64 a.1):=pureRun_part he hi _ _ rfl
  have e1:pureRun P (part et #[Value.int .i64 a.1,.int .i64 a.2.1,.int .i64 a.2.2.1,.int .i64 a.2.2.2.1,.int .i64 a.2.2.2.2] 1)=some (.int .i64 a.2.1):=pureRun_part he hi _ _ rfl
  have e2:pureRun P (part et #[Value.int .i64 a.1,.int .i64 a.2.1,.int .i64 a.2.2.1,.int .i64 a.2.2.2.1,.int .i64 a.2.2.2.2] 2)=some (.int .i64 a.2.2.1):=pureRun_part he hi _ _ rfl
  have e3:pureRun P (part et #[Value.int .i64 a.1,.int .i64 a.2.1,.int .i64 a.2.2.1,.int .i64 a.2.2.2.1,.int .i64 a.2.2.2.2] 3)=some (.int .i64 a.2.2.2.1):=pureRun_part he hi _ _ rfl
  have e4:pureRun P (part e6 #[Value.int .i64 a.1,.int .i64 a.2.1,.int .i64 a.2.2.1,.int .i64 a.2.2.2.1,.int .i64 a.2.2.2.2] 4)=some (.int .i64 a.2.2.2.2):=pureRun_part he6 hi6 _ _ rfl
  have k:∀ x:Int,pureRun P (Instr.checkKey e 9999 et (.int .i64 x))=some ():=fun x=>chkI he e 9998 x
  have k6:∀ x:Int,pureRun P (Instr.checkKey e 9999 e6 (.int .i64 x))=some ():=fun x=>chkI he6 e 9998 x
  unfold Instr.checkKey
  rw [pureRun_bind,pureRun_und hu]
  simp only [Option.bind_some]
  rw [← Array.forIn_toList]
  simp only [List.forIn_cons,List.forIn_nil]
  simp [pureRun_bind,pureRun_ite,pureRun_pure,n0,t0,o0,n1,t1,o1,n2,t2,o2,n3,t3,o3,n4,t4,o4,e0,e1,e2,e3,e4,k,k6]
 bits:=fun a=>by
  show Instr.sameBits 10000 (chgV a) (chgV a)=true
  unfold Instr.sameBits chgV
  simp [Instr.sameBits]
def fieldsOf (P:Program) (t:TypeId):List Field:=
 match P.underlying t with
 | some (.struct fs)=>fs.toList
 | _=>[]
theorem fields_u {P:Program} {t:TypeId} {l:List Field} (h:fieldsOf P t=l) (hn:l≠[]):P.underlying t=some (.struct l.toArray):=by
 unfold fieldsOf at h
 split at h
 ·rename_i fs hu
  rw [hu,← h]
 ·exact absurd h.symm hn
theorem five_of {P:Program} {t et e6:TypeId} (h:(fieldsOf P t).map (fun f=>(f.name != "_",f.type,f.offset)) = [(true,et,0),(true,et,1),(true,et,2),(true,et,3),(true,e6,4)]) (hst:P.stoodInHeld t=false):∃ f0 f1 f2 f3 f4,FiveI P t f0 f1 f2 f3 f4 et e6:=by
 obtain ⟨l,hl⟩:∃ l,fieldsOf P t=l:=⟨_,rfl⟩
 rw [hl] at h
 have hlen:l.length=5:=by have:=congrArg List.length h; simpa using this
 obtain ⟨f0,f1,f2,f3,f4,rfl⟩:∃ f0 f1 f2 f3 f4,l = [f0,f1,f2,f3,f4]:=by
  rcases l with _ | ⟨f0,_ | ⟨f1,_ | ⟨f2,_ | ⟨f3,_ | ⟨f4,_ | ⟨f5,l⟩⟩⟩⟩⟩⟩ <;> first | (simp at hlen; done) | exact ⟨_,_,_,_,_,rfl⟩
 simp only [List.map_cons,List.map_nil,List.cons.injEq,Prod.mk.injEq,bne_iff_ne,ne_eq,and_true] at h
 obtain ⟨⟨n0,t0,o0⟩,⟨n1,t1,o1⟩,⟨n2,t2,o2⟩,⟨n3,t3,o3⟩,n4,t4,o4⟩:=h
 exact ⟨f0,f1,f2,f3,f4,fields_u hl (by simp),hst,⟨n0,n1,n2,n3,n4⟩,⟨t0,t1,t2,t3,t4⟩,o0,o1,o2,o3,o4⟩
theorem keyC:KeyOk Tryz.prog 116 chgV:=by
 obtain ⟨f0,f1,f2,f3,f4,H⟩:=five_of (P:=Tryz.prog) (t:=116) (et:=3) (e6:=2) (by kernel_rfl) (by kernel_rfl)
 obtain ⟨i,hi,-⟩:=tyB_parts tyI8
 obtain ⟨i6,hi6,-⟩:=sz64
 exact keyFive (d:=.i64) (d6:=.i64) H Tryz.underlying3 hi Tryz.underlying2 hi6
end Eva
end
section
open Go Go.RowKit
def key0 (x:Chg):Chg:=(x.1,x.2.1,x.2.2.1,x.2.2.2.1,0)
structure BatchOk (N:NetD) (l:List Chg):Prop where
 len:l.length≤256
 ok:∀ x∈l,ChgOk N x
 one:∀ (j i:Nat) (x y:Chg),j<i→l[j]? = some x→l[i]? = some y→key0 x≠key0 y
namespace Eva
section
variable {h h':AH} {F Fa:Nat→Prop} {Q:Value→AH→Prop} {A:Option Addr} {n K g:Nat} {N:NetD} {xs:List Chg}
theorem aNet (G:GrA h Fa F g N) (hK:∀ A1 n1 K1 A2 n2 K2 A3 n3 K3 h',Sa cTri (fun z=>h.next≤z) h' A1 n1 K1 N.vs→Sa cTri (fun z=>h.next≤z) h' A2 n2 K2 N.xa→Sa cTab (fun z=>h.next≤z) h' A3 n3 K3 N.ts→Nw h h'→Q (.agg #[.slice A1 n1 K1,.slice A2 n2 K2,.slice A3 n3 K3]) h') :
  WC Tryz.prog 88 [.pointer (some ⟨g,0,none⟩)] h Q:=by
 refine w_graph_Graph_Net fun h1 e1=>?_
 obtain ⟨k1,g1,z1⟩:=news e1
 obtain ⟨⟨hg1,hg2⟩,⟨a1,a2,a3,a4,a5⟩,⟨b1,b2,b3,b4,b5⟩,⟨c1,c2,c3,c4,c5⟩,-,-,-,ok,fw⟩:=G
 refine ⟨g,0,rfl,_,_,_,_,_,_,_,_,_,ldN3' ((k1.ldC hg2 _).trans a4) ((k1.ldC hg2 _).trans b4) ((k1.ldC hg2 _).trans c4),?_⟩
 refine aGClone (a5.nw k1) (b5.nw k1) (c5.nw k1) ok fun D3 A1 K1 A2 K2 A3 K3 h2 s1 s2 s3 lo lo3 k2=>⟨_,_,_,_,_,_,_,_,_,rfl,?_⟩
 obtain ⟨h3,t3,g3,z3,o3⟩:=st_all (vs:=[.slice A1 a2 K1,.slice A2 b2 K2,.slice A3 c2 K3]) (k2.bk (by omega) g1) rfl (flat3 rfl rfl rfl)
 have m3:Mt (fun z=>z=h.next) h2 h3:=⟨by omega,fun z _ hn=>o3 z hn⟩
 have z2:=k2.next
 refine ⟨h3,t3,_,_,_,_,_,_,_,_,_,ldN3' (ldC_of g3 rfl) (ldC_of g3 rfl) (ldC_of g3 rfl),hK _ _ _ _ _ _ _ _ _ h3 ((s1.off m3 fun z hz e=>by have:=hz.1; omega).mono fun z hz _=>by have:=hz.1; omega) ((s2.sa.off m3 fun z hz e=>by have:=(lo z hz).1; omega).mono fun z hz _=>by have:=(lo z hz).1; omega) ((s3.sa.off m3 fun z hz e=>by have:=lo3 z hz; omega).mono fun z hz _=>by have:=lo3 z hz; omega) (m3.is_nw (k1.trans k2) fun z hz=>by omega)⟩
def iV (j:Nat):Value:=.int .i64 (j:Int)
theorem aBCheck (G:GrA h Fa F g N) {Fl:Nat→Prop} (hs:Sz cChg Fl h A n K xs) (hK1:BatchOk N xs→∀ h',Nw h h'→Q .nilIface h') (hK2:¬ BatchOk N xs→∀ t u h',Nw h h'→Q (.iface t u) h') :
  WC Tryz.prog 84 [.pointer (some ⟨g,0,none⟩),.slice A n K] h Q:=by
 have hl:=hs.len
 refine w_batch_Check ⟨fun hbig h1 e1=>hK2 (fun B=>by have:=B.len; omega) _ _ _ (news e1).1,fun hle=>⟨fun h0=>?_,fun hn0=>?_⟩⟩
 ·obtain rfl:xs = []:=by
   apply List.eq_nil_of_length_eq_zero
   omega
  exact hK1 ⟨by simp,by simp,fun j i x y _ hx=>by simp at hx⟩ h (Nw.refl _)
 refine aNet G fun A1 n1 K1 A2 n2 K2 A3 n3 K3 h2 s1 s2 s3 k2=>⟨_,_,_,_,_,_,_,_,_,rfl,fun h3 e3=>?_⟩
 obtain ⟨k3,g3,z3⟩:=news e3
 have k13:=k2.trans k3
 refine ⟨fun m x h4=>∃ (i:Nat) (f:Chg→Option Nat),x=i∧i≤n∧m=n - i∧MapF chgV h4 h2.next (fun y=>(f y).map iV)∧(∀ y,(f y).isSome=true↔∃ j x,j<i∧xs[j]? = some x∧key0 x=y)∧(∀ j x,j<i→xs[j]? = some x→ChgOk N x)∧(∀ j i' x y,j<i'→i' < i→xs[j]? = some x→xs[i']? = some y→key0 x≠key0 y)∧Mt (fun z=>z=h2.next) h3 h4,n,
  ⟨0,fun _=>none,rfl,Nat.zero_le _,rfl,MapF.new g3,fun y=>⟨fun h=>(by cases h),fun ⟨j,x,hj,_⟩=>absurd hj (by omega)⟩,fun j x hj=>absurd hj (by omega),fun j i' x y _ hj=>absurd hj (by omega),Mt.refl _ _⟩,?_⟩
 rintro m x h4 ⟨i,f,rfl,hi,rfl,M4,hf,hok,hone,m4⟩
 have z4:=m4.next
 have k14:Nw h h4:=m4.is_nw k13 fun z hz=>by have:=k2.next; omega
 refine ⟨fun hlt=>?_,fun hge=>?_⟩
 ·obtain ⟨b',o',x,hA',-,hlb,hx,hc,hn5⟩:=(hs.nw k14).chg (k:=i) (by omega)
  refine ⟨i,rfl,b',o',hA',by omega,_,_,_,_,_,hn5,fun h5 e5=>?_⟩
  obtain ⟨h6,s6,k6,g6,z6⟩:=box_st (vs:=chgL x) e5 rfl (flat5 x)
  have t6:Sa cTab (fun z=>h.next≤z∧z<h2.next) h6 A3 n3 K3 N.ts:=(((s3.mono fun z hz hl=>(⟨hz,hl⟩:h.next≤z∧z<h2.next)).nw k3).off m4 fun z hz e=>by omega).nw k6
  refine ⟨h6,s6,_,_,_,_,_,ldN_bk (o:=0) (n:=5) g6 (by simp [chgL]),aLookAt (G.nw (k14.trans k6)) x t6 fun h7 k7=>⟨_,rfl,_,_,_,_,_,ldN_bk (o:=0) (n:=5) (k7.bk (by omega) g6) (by simp [chgL]),fun h8 e8=>?_⟩⟩
  obtain ⟨h9,s9,k9,g9,z9⟩:=box_st (vs:=chgL x) e8 rfl (flat5 x)
  obtain ⟨h10,s10,g10,z10,o10⟩:=st_one (v:=.int .i64 0) (o:=4) g9 (by simp [chgL]) rfl
  have g10':Bk h10 h7.next (chgL (key0 x)) 116:=g10
  have z7:=k7.next
  have m10:Mt (fun z=>z=h7.next) h9 h10:=⟨by omega,fun z _ hn=>o10 z hn⟩
  have m410:Mt (fun z=>z=h7.next) h4 h10:=((((Mt.of k6).nw k7).nw k9).then m10)
  have k410:Nw h4 h10:=m410.is_nw (Nw.refl _) fun z hz=>by omega
  have M10:MapF chgV h10 h2.next (fun y=>(f y).map iV):=M4.keep (m410.get _ (by omega) (by omega))
  have bad:¬ BatchOk N xs→∀ t u h',Nw h10 h'→Q (.iface t u) h':=fun hb t u h' a=>hK2 hb t u h' ((k14.trans k410).trans a)
  have n10:ldN h10 h7.next 0 5=some (chgL (key0 x)):=ldN_bk (o:=0) (n:=5) g10' (by simp [chgL])
  have put:ChgOk N x→(∀ j y,j<i→xs[j]? = some y→key0 y≠key0 x)→∃ h11:AH,lMap Tryz.prog h10 (some (.map 116 3)) (.map (some h2.next)) (chgV (key0 x)) (.int .i64 (i:Int))=some (undef,h11)∧WR ((i:Int)+1) fun x29=>RE (n - i) fun m'=>∃ (i:Nat) (f:Chg→Option Nat),x29=i∧i≤n∧m' = n - i∧MapF chgV h11 h2.next (fun y=>(f y).map iV)∧(∀ y,(f y).isSome=true↔∃ j x,j<i∧xs[j]? = some x∧key0 x=y)∧(∀ j x,j<i→xs[j]? = some x→ChgOk N x)∧(∀ j i' x y,j<i'→i' < i→xs[j]? = some x→xs[i']? = some y→key0 x≠key0 y)∧Mt (fun z=>z=h2.next) h3 h11:=fun hx1 hx2=>by
   obtain ⟨h11,y1,y2,y3,y4⟩:=M10.put (e:=3) keyC (key0 x) (iV i)
   refine ⟨h11,y1,_,wrS (by omega),n - (i+1),by omega,i+1,fun y=>if y=key0 x then some i else f y,rfl,by omega,rfl,?_,fun y=>?_,fun j y hj hy=>?_,fun j i' y y' h1 h2 h3 h4=>?_,m4.trans (⟨by omega,fun z hz hn=>(y4 z hn).trans (m410.get z hz (by omega))⟩:Mt (fun z=>z=h2.next) h4 h11) fun z hz _=>hz⟩
   ·have e:(fun y=>if y=key0 x then some (iV i) else (f y).map iV)=fun y=>(if y=key0 x then some i else f y).map iV:=by
     funext y
     by_cases h:y=key0 x
     ·simp [h]
     ·simp [h]
    rw [← e]
    exact y2
   ·by_cases h:y=key0 x
    ·subst h
     simp only [if_pos rfl]
     exact ⟨fun _=>⟨i,x,by omega,hx,rfl⟩,fun _=>rfl⟩
    ·simp only [if_neg h]
     rw [hf y]
     constructor
     ·rintro ⟨j,x',h1,h2,h3⟩; exact ⟨j,x',by omega,h2,h3⟩
     ·rintro ⟨j,x',h1,h2,h3⟩
      by_cases e:j=i
      ·subst e
       rw [hx] at h2
       obtain rfl:=Option.some.inj h2
       exact absurd h3.symm h
      ·exact ⟨j,x',by omega,h2,h3⟩
   ·by_cases e:j=i
    ·subst e
     rw [hx] at hy
     obtain rfl:=Option.some.inj hy
     exact hx1
    ·exact hok j y (by omega) hy
   ·by_cases e:i' = i
    ·subst e
     rw [hx] at h4
     obtain rfl:=Option.some.inj h4
     exact hx2 j y (by omega) h3
    ·exact hone j i' y y' h1 (by omega) h3 h4
  refine ⟨h9,s9,h10,s10,fun hw0=>?_,fun hw0=>⟨fun h=>absurd h hw0,fun _ h12 e12=>bad (fun B=>hw0 (NetD.wrong_ok.2 (B.ok x (List.mem_of_getElem? hx)))) _ _ _ (news e12).1⟩⟩
  have hx1:=NetD.wrong_ok.1 hw0
  obtain ⟨iz,hiz,hz0⟩:=infoI
  have hlook:=M10.look (e:=3) keyC hiz hz0 (by rfl) (key0 x) true
  refine ⟨_,_,_,_,_,n10,((f (key0 x)).map Int.ofNat).getD 0,(f (key0 x)).isSome,?_,fun hb=>?_,fun hb=>⟨fun _=>?_,fun h=>absurd hw0 h⟩⟩
  ·refine hlook.trans ?_
   cases f (key0 x) <;> rfl
  ·refine ⟨fun h=>absurd h (by decide),fun _ h12 e12=>bad (fun B=>?_) _ _ _ (news e12).1⟩
   obtain ⟨j,y,h1,h2,h3⟩:=(hf _).1 hb
   exact B.one j i y x h1 h2 hx h3
  ·refine ⟨_,_,_,_,_,n10,put hx1 fun j y hj hy he=>?_⟩
   rw [(hf _).2 ⟨j,y,hj,hy,he⟩] at hb
   cases hb
 ·obtain rfl:i=n:=by omega
  refine hK1 ⟨by omega,fun x hx=>?_,fun j i' x y h1 h2 h3=>hone j i' x y h1 (by have:=(List.getElem?_eq_some_iff.1 h3).1; omega) h2 h3⟩ h4 k14
  obtain ⟨j,hj⟩:=List.getElem?_of_mem hx
  exact hok j x (by have:=(List.getElem?_eq_some_iff.1 hj).1; omega) hj
end
end Eva
end
section
open Go Go.RowKit
namespace Eva
theorem tabsOf {cells:List Value} {f:Nat→List Value} {s:Nat} (hs:0<s) (hf:∀ k,(f k).length=s) {n:Nat} (hl:cells.length=n * s) (h:∀ k,k<n→(cells.drop (k * s)).take s=f k):cells=tabs f n:=by
 apply List.ext_getElem?
 intro i
 by_cases hi:i<n * s
 ·have hd:i / s<n:=(Nat.div_lt_iff_lt_mul hs).2 hi
  have hm:i % s<s:=Nat.mod_lt _ hs
  have he:i=i / s * s+i % s:=by have:=Nat.div_add_mod i s; rw [Nat.mul_comm] at this; omega
  have h1:=h _ hd
  have h2:=tabs_get hf hd hm
  rw [he,h2,← h1,List.getElem?_take,if_pos hm,List.getElem?_drop]
 ·rw [List.getElem?_eq_none (by omega),List.getElem?_eq_none (by rw [tabs_len hf]; omega)]
section
variable {α:Type} {r:Rc α} {h h':AH} {D:Nat→Prop} {e:TypeId} {A:Option Addr} {n K:Nat} {xs:List α}
theorem OwnP.elems (o:OwnP r h D e A n K xs) (hn:0<n) (hr:0<r.size):∃ g f,A=some ⟨g,0,none⟩∧D g∧g<h.next∧Bk h g (tabs f n) e∧(∀ k,(f k).length=r.size)∧(K=cl n∨K=2 * n)∧(∀ k,k<n→∀ u∈f k,flat u=true)∧∀ k x,xs[k]? = some x→r.rel (fun b=>D b∧b≠g) h (f k) x:=by
 obtain ⟨hl,o⟩:=o
 rcases o with ⟨_,h1,_⟩ | ⟨g,cells,rfl,h1,h2,h3,h4,h5,h6,h7⟩
 ·omega
 ·have hcut:∀ k,k<n→((cells.drop (k * r.size)).take r.size).length=r.size:=fun k hk=>by
   have:(k+1) * r.size≤n * r.size:=Nat.mul_le_mul_right _ hk
   rw [Nat.succ_mul] at this
   simp; omega
  have hf:∀ k,(if k<n then (cells.drop (k * r.size)).take r.size else List.replicate r.size undef).length=r.size:=fun k=>by
   split
   ·exact hcut k (by assumption)
   ·simp
  refine ⟨g,fun k=>if k<n then (cells.drop (k * r.size)).take r.size else List.replicate r.size undef,rfl,h1,h2,?_,hf,h5,fun k hk u hu=>?_,fun k x hx=>?_⟩
  ·have:cells=tabs (fun k=>if k<n then (cells.drop (k * r.size)).take r.size else List.replicate r.size undef) n:=tabsOf hr hf h4 fun k hk=>by simp only [if_pos hk]
   rw [← this]; exact h3
  ·simp only [if_pos hk] at hu
   exact h6 u (List.mem_of_mem_drop (List.mem_of_mem_take hu))
  ·have hk:k<n:=by rw [← hl]; exact (List.getElem?_eq_some_iff.1 hx).1
   simp only [if_pos hk]
   exact h7 k x hx
theorem OwnP.of_elems {g:Nat} {f:Nat→List Value} (hl:xs.length=n) (h1:D g) (h2:g<h.next) (h3:Bk h g (tabs f n) e) (hf:∀ k,(f k).length=r.size) (h5:K=cl n∨K=2 * n) (h7:∀ k x,xs[k]? = some x→r.rel (fun b=>D b∧b≠g) h (f k) x):OwnP r h D e (some ⟨g,0,none⟩) n K xs:=by
 refine ⟨hl,.inr ⟨g,_,rfl,h1,h2,h3,tabs_len hf n,h5,fun u hu=>?_,fun k x hx=>?_⟩⟩
 ·obtain ⟨k,hk,hu⟩:=List.mem_flatMap.1 hu
  have hk':k<n:=by simpa using hk
  have hx:xs[k]? = some (xs[k]'(by omega)):=List.getElem?_eq_getElem _
  exact r.flat (h7 k _ hx) u hu
 ·rw [tabs_cut hf n (by rw [← hl]; exact (List.getElem?_eq_some_iff.1 hx).1)]
  exact h7 k x hx
end
theorem OwnP.ints {h:AH} {D:Nat→Prop} {e:TypeId} {A:Option Addr} {n K:Nat} {xs:List Int} (o:OwnP cI h D e A n K xs) (hn:0<n):∃ g,A=some ⟨g,0,none⟩∧D g∧g<h.next∧Bk h g (xs.map (Value.int .i64)) e:=by
 obtain ⟨hl,o⟩:=o
 rcases o with ⟨_,h1,_⟩ | ⟨g,cells,rfl,h1,h2,h3,h4,h5,h6,h7⟩
 ·omega
 ·refine ⟨g,rfl,h1,h2,?_⟩
  have h4':cells.length=n:=by rw [h4]; exact Nat.mul_one n
  have:cells=xs.map (Value.int .i64):=by
   apply List.ext_getElem?
   intro i
   rw [List.getElem?_map]
   by_cases hi:i<n
   ·have hx:xs[i]? = some (xs[i]'(by omega)):=List.getElem?_eq_getElem _
    have hr:(cells.drop (i * 1)).take 1 = [Value.int .i64 (xs[i]'(by omega))]:=h7 i _ hx
    have hc:cells[i]? = some (cells[i]'(by omega)):=List.getElem?_eq_getElem _
    rw [Nat.mul_one,take_one' hc] at hr
    rw [hc,hx]
    simpa using hr
   ·rw [List.getElem?_eq_none (by omega),List.getElem?_eq_none (by omega)]; rfl
  rw [← this]; exact h3
section
variable {h h':AH} {F Fa Ft:Nat→Prop} {Q:Value→AH→Prop} {A:Option Addr} {n K g:Nat} {N:NetD}
theorem Shp.endsL {M:NetD} (S:Shp N M) (q:Bool):M.endsL q=N.endsL q:=by unfold NetD.endsL; rw [S.nv,S.ends,S.na]
theorem Shp.plL {M:NetD} (S:Shp N M):M.plL=N.plL:=by
 unfold NetD.plL
 rw [S.na]
 congr 1
 funext a
 rw [S.inPl,S.outPl]
structure GrTo (h h':AH) (Fa Ft F:Nat→Prop) (g:Nat) (M:NetD):Prop where
 gr:∃ Fa' Ft' F',GrX h' Fa' Ft' F' g M∧(∀ z,Fa' z∨Ft' z→Fa z∨Ft z∨h.next≤z)∧∀ z,F' z→F z
 mt:Mt (fun z=>Fa z∨Ft z) h h'
theorem aSet (X:GrX h Fa Ft F g N) {a:Nat} (ha:a<N.na) {w:Int} (hw:weightB w=true) (hK:∀ h',GrTo h h' Fa Ft F g (N.setW a w)→Q .nilIface h') :
  WC Tryz.prog 90 [.pointer (some ⟨g,0,none⟩),.int .i64 a,.int .i64 w] h Q:=by
 have hfr:=(NetD.fr_lt X.ok ha).2
 have hto:=(NetD.to_lt X.ok ha).2
 have S:=NetD.setW_shp (N:=N) a w
 have hok:=NetD.setW_ok X.ok (a:=a) hw
 refine w_graph_Graph_Set (aArc1 X.gr ha ⟨_,rfl,fun _=>aWeightB hw ⟨_,rfl,fun _=>?_,fun h=>Bool.noConfusion h⟩,fun h=>Bool.noConfusion h⟩)
 obtain ⟨o,⟨a1,a2,a3,a4,a5⟩,⟨b1,b2,b3,b4,b5⟩,⟨c1,c2,c3,c4,c5⟩,⟨d1,d2,d3,d4,d5⟩,⟨e1,e2,e3,e4,e5⟩,⟨f1,f2,f3,f4,f5⟩,ok,fw,dj⟩:=X
 have hb2:N.na=b2:=b5.len
 obtain ⟨gA,f,rfl,hD,hlt,hB,hf,hK2,hfl,hrel⟩:=b5.elems (by omega) (by decide)
 have hNg:gA≠g:=fun e=>((dj gA).1 hD).2 (e ▸ o.1)
 obtain ⟨h2,s2,B2,z2,o2⟩:=st_tab1 hB hf (k:=a) (by omega) (j:=2) (by decide) (x:=.int .i64 w) rfl
 have m2:Mt (fun z=>z=gA) h h2:=⟨by omega,fun z _ hn=>o2 z hn⟩
 refine ⟨g,0,rfl,_,_,_,b4,a,rfl,gA,0,rfl,by omega,h2,s2,hK h2 ⟨⟨Fa,Ft,F,?_,fun z hz=>hz.elim .inl fun h=>.inr (.inl h),fun z hz=>hz⟩,m2.mono fun z hz _=>.inl (hz ▸ hD)⟩⟩
 have hg:∀ j,ldC h2 g j=ldC h g j:=fun j=>ldC_congr (o2 g fun e=>hNg e.symm) j
 have kF:∀ {α:Type} {r:Rc α} {A:Option Addr} {n K:Nat} {xs:List α},Sa r F h A n K xs→Sa r F h2 A n K xs:=fun s=>s.off m2 fun z hz e=>((dj gA).1 hD).2 (e ▸ hz)
 have hfa:f a = [.int .i64 (N.arc a).1,.int .i64 (N.arc a).2.1,.int .i64 (N.arc a).2.2]:=hrel a _ (NetD.arc_get ha)
 have hen:∀ q,(N.setW a w).endsL q=N.endsL q:=Shp.endsL S
 have hpl:(N.setW a w).plL=N.plL:=Shp.plL S
 refine ⟨⟨o.1,by omega⟩,⟨a1,a2,a3,(hg _).trans a4,kF a5⟩,⟨_,b2,b3,(hg _).trans b4,OwnP.of_elems (by rw [← hb2]; exact S.na) hD (by omega) B2 (fun k=>?_) hK2 fun k x hx=>?_⟩,⟨c1,c2,c3,(hg _).trans c4,c5.off m2 fun z hz _ e=>((dj gA).1 hD).1 (e ▸ hz)⟩,⟨d1,d2,d3,(hg _).trans d4,by rw [hen]; exact kF d5⟩,⟨e1,e2,e3,(hg _).trans e4,by rw [hen]; exact kF e5⟩,⟨f1,f2,f3,(hg _).trans f4,by rw [hpl]; exact kF f5⟩,hok,by rw [S.nv,S.na]; exact fw,dj⟩
 ·unfold upd
  split
  ·simp [hf]
  ·exact hf k
 ·show cTri.rel _ h2 (upd f a ((f a).set 2 (.int .i64 w)) k) x
  have hx':(N.xa.set a ((N.arc a).1,(N.arc a).2.1,w))[k]? = some x:=hx
  rw [List.getElem?_set] at hx'
  unfold upd
  by_cases e:k=a
  ·subst e
   rw [if_pos rfl,if_pos (by exact ha)] at hx'
   obtain rfl:=Option.some.inj hx'
   rw [if_pos rfl,hfa]
   rfl
  ·rw [if_neg (fun h=>e h.symm)] at hx'
   rw [if_neg e]
   exact hrel k x hx'
end
end Eva
end
section
open Go Go.RowKit
namespace Eva
section
variable {h h':AH} {F Fa Ft:Nat→Prop} {Q:Value→AH→Prop} {A:Option Addr} {n K g:Nat} {N:NetD}
theorem aWith {ins outs:Int} {costs:List Int} (hs:Sa cI F h A n K costs) (hok:TableOk ins outs costs) {i o:Nat} (hi:(i:Int)<ins) (ho:(o:Int)<outs) {c:Int} (hc:weightB c=true)
  (hK:∀ A' K' h',Sa cI (fun z=>h.next≤z) h' A' n K' (costs.set (i * outs.toNat+o) c)→Nw h h'→Q (.tuple #[.agg #[.int .i64 ins,.int .i64 outs,.slice A' n K'],.nilIface]) h') :
  WC Tryz.prog 154 [.agg #[.int .i64 ins,.int .i64 outs,.slice A n K],.int .i64 i,.int .i64 o,.int .i64 c] h Q:=by
 have hlen:=hs.len
 have h16:=hok.ins_
 have h17:=hok.outs_
 have hcl:=hok.len
 obtain ⟨ins,rfl⟩:=Int.eq_ofNat_of_zero_le h16.1
 obtain ⟨outs,rfl⟩:=Int.eq_ofNat_of_zero_le h17.1
 have hio:i * outs+o<ins * outs:=pl_lt (by omega) (by omega)
 have hn:n=ins * outs:=by
  have h3:((costs.length:Nat):Int)=((ins * outs:Nat):Int):=by rw [hcl]; simp
  omega
 have hmul:ins * outs≤16 * 16:=Nat.mul_le_mul (by omega) (by omega)
 have hmul2:i * outs≤16 * 16:=Nat.mul_le_mul (by omega) (by omega)
 obtain ⟨t,ht⟩:∃ t,i * outs=t:=⟨_,rfl⟩
 rw [ht] at hio hmul2
 refine w_turn_With fun h1 e1 h2 e2=>?_
 obtain ⟨k1,g1,z1⟩:=news e1
 obtain ⟨k2,g2,z2⟩:=news e2
 have k12:=k1.trans k2
 have b1:∀ {h'},Nw h2 h'→Bk h' h.next [.int .i64 (ins:Int),.int .i64 (outs:Int),.slice A n K] 188:=fun a=>a.bk (by omega) (k2.bk (by omega) g1)
 have q:∀ {h'} (a:Nw h2 h') {j v},[Value.int .i64 (ins:Int),.int .i64 (outs:Int),.slice A n K][j]? = some v→ldC h' h.next j=some v:=fun {h'} a {j v} hj=>ldC_of (b1 a) hj
 refine ⟨fun h=>absurd h (by omega),fun _=>⟨_,q (Nw.refl _) (j:=0) rfl,fun h=>absurd h (by omega),fun _=>⟨fun h=>absurd h (by omega),fun _=>⟨_,q (Nw.refl _) (j:=1) rfl,fun h=>absurd h (by omega),fun _=>aWeightB hc ⟨_,rfl,fun _=>⟨_,_,_,_,_,ldN3' (q (Nw.refl _) (j:=0) rfl) (q (Nw.refl _) (j:=1) rfl) (q (Nw.refl _) (j:=2) rfl),aTurnCheck (hs.z.nw k12) hok fun h12 k3=>⟨none,rfl,fun _=>⟨_,_,_,q k3 (j:=2) rfl,aClone64 (hs.nw (k12.trans k3)) (by omega) fun A8 K8 h13 o8 k8 lo8=>⟨_,_,_,rfl,?_⟩⟩,fun t u h=>by cases h⟩⟩,fun h=>Bool.noConfusion h⟩⟩⟩⟩⟩
 have z12:=k3.next
 have z13:=k8.next
 obtain ⟨g8,rfl,d8,l8,B8⟩:=o8.ints (by omega)
 have lg8:=lo8 _ d8
 obtain ⟨h14,s14,B14,z14,o14⟩:=st_one (v:=.slice (some ⟨g8,0,none⟩) n K8) (o:=2) (b1 (k3.trans k8)) (by simp) rfl
 have B14':Bk h14 h.next [.int .i64 (ins:Int),.int .i64 (outs:Int),.slice (some ⟨g8,0,none⟩) n K8] 188:=B14
 have B8':=(o14 g8 (by omega)).trans B8
 obtain ⟨h15,s15,B15,z15,o15⟩:=st_one (v:=.int .i64 c) (o:=0+(t+o)) B8' (by rw [List.length_map]; omega) rfl
 have B15':Bk h15 h.next [.int .i64 (ins:Int),.int .i64 (outs:Int),.slice (some ⟨g8,0,none⟩) n K8] 188:=(o15 _ (by omega)).trans B14'
 obtain ⟨h16,s16,B16,z16,o16⟩:=st_all (vs:=[.int .i64 (ins:Int),.int .i64 (outs:Int),.slice (some ⟨g8,0,none⟩) n K8]) ((o15 _ (by omega)).trans ((o14 _ (by omega)).trans ((k3.trans k8).bk (by omega) g2))) rfl (flat3 rfl rfl rfl)
 have w1:IntKind.i64.wrap ((i:Int) * (outs:Int))=(t:Int):=by
  rw [← Int.natCast_mul,ht]
  exact wr_ok (by omega) (by omega)
 have w2:IntKind.i64.wrap ((t:Int)+(o:Int))=((t+o:Nat):Int):=by rw [Int.natCast_add]; exact wr_ok (by omega) (by omega)
 refine ⟨h14,s14,_,_,_,ldC_of B14' rfl,_,ldC_of B14' rfl,_,w1,_,w2,t+o,rfl,g8,0,rfl,by omega,h15,s15,_,_,_,_,_,ldN3' (ldC_of B15' rfl) (ldC_of B15' rfl) (ldC_of B15' rfl),h16,s16,_,_,_,_,_,ldN3' (ldC_of B16 rfl) (ldC_of B16 rfl) (ldC_of B16 rfl),hK _ _ h16 ?_ ?_⟩
 ·have e:(costs.map (Value.int .i64)).set (0+(t+o)) (.int .i64 c)=(costs.set (i * (outs:Int).toNat+o) c).map (Value.int .i64):=by
   rw [List.map_set,Int.toNat_natCast,ht,Nat.zero_add]
  refine Sa.of_ints (e:=2) (f:=false) ?_ (by rw [List.length_set]; exact hlen) (by omega) (by omega)
  have:=(o16 g8 (by omega)).trans B15
  rwa [e] at this
 ·exact ⟨by omega,fun z hz=>(o16 z (by omega)).trans ((o15 z (by omega)).trans ((o14 z (by omega)).trans (((k12.trans k3).trans k8).get z hz)))⟩
theorem aBend (X0:GrX h Fa Ft F g N) {t i o:Nat} (ht:t<N.ts.length) (hi:(i:Int)<(N.tb t).1) (ho:(o:Int)<(N.tb t).2.1) {c:Int} (hc:weightB c=true) (hK:∀ h',GrTo h h' Fa Ft F g (N.bend t i o c)→Q .nilIface h') :
  WC Tryz.prog 91 [.pointer (some ⟨g,0,none⟩),.int .i64 t,.int .i64 i,.int .i64 o,.int .i64 c] h Q:=by
 have X:=X0.lt
 have S:=NetD.bend_shp (N:=N) t i o c
 have hok:=NetD.bend_ok X.ok (t:=t) (i:=i) (o:=o) ht hc
 have htk:=NetD.tb_ok X.ok ht
 obtain ⟨⟨o1,o2⟩,⟨a1,a2,a3,a4,a5⟩,⟨b1,b2,b3,b4,b5⟩,⟨c1,c2,c3,c4,c5⟩,⟨d1,d2,d3,d4,d5⟩,⟨y1,y2,y3,y4,y5⟩,⟨f1,f2,f3,f4,f5⟩,ok,fw,dj⟩:=X
 have hnt:=ok.nt
 have hc2:N.ts.length=c2:=c5.len
 obtain ⟨gT,f,rfl,hD,hlt,hB,hf,hK2,hfl,hrel⟩:=c5.elems (by omega) (by decide)
 have htt:N.ts[t]? = some (N.tb t):=by simp [NetD.tb,List.getElem?_eq_getElem ht]
 obtain ⟨A',n',K',hft,hs⟩:=hrel t _ htt
 have hld:∀ j u,(f t)[j]? = some u→ldC h gT (0+t * 3+j)=some u:=fun j u hj=>by
  have hj3:j<3:=by have:=(List.getElem?_eq_some_iff.1 hj).1; rw [hf] at this; exact this
  rw [ldC_bk hB,Nat.zero_add,tabs_get (s:=3) hf (by omega) hj3,hj]
 have hl3:ldN h gT (0+t * 3) 3=some [.int .i64 (N.tb t).1,.int .i64 (N.tb t).2.1,.slice A' n' K']:=ldN3' (hld 0 _ (by rw [hft]; rfl)) (hld 1 _ (by rw [hft]; rfl)) (hld 2 _ (by rw [hft]; rfl))
 refine w_graph_Graph_Bend ⟨fun h=>absurd h (by omega),fun _=>⟨g,0,rfl,_,_,_,c4,fun h=>absurd h (by omega),fun _=>⟨_,_,_,c4,t,rfl,gT,0,rfl,by omega,_,_,_,_,_,hl3,aWith hs htk hi ho hc fun A4 K4 h3 s3 k3=>⟨_,_,_,_,_,none,rfl,fun h4 e4=>?_⟩⟩⟩⟩
 obtain ⟨h5,s5,k5,g5,z5⟩:=box_st (vs:=[.int .i64 (N.tb t).1,.int .i64 (N.tb t).2.1,.slice A4 n' K4]) e4 rfl (flat3 rfl rfl rfl)
 have k35:=k3.trans k5
 have z3:=k3.next
 obtain ⟨h6,s6,B6,z6,o6⟩:=st_tab (k35.bk hlt hB) hf (k:=t) (by omega) (v:=[.int .i64 (N.tb t).1,.int .i64 (N.tb t).2.1,.slice A4 n' K4]) rfl (flat3 rfl rfl rfl)
 have m6:Mt (fun z=>z=gT) h5 h6:=⟨by omega,fun z _ hn=>o6 z hn⟩
 have m:Mt (fun z=>z=gT) h h6:=(Mt.of k35).then m6
 have hNg:gT≠g:=fun e=>(dj gT).2 hD (e ▸ o1)
 have hg:∀ {h'} j,Nw h h'→ldC h' g j=ldC h g j:=fun j a=>a.ldC o2 j
 have hg6:∀ j,ldC h6 g j=ldC h g j:=fun j=>ldC_congr (m.get g o2 fun e=>hNg e.symm) j
 have kF:∀ {α:Type} {r:Rc α} {A:Option Addr} {n K:Nat} {xs:List α},Sa r (fun z=>F z∧z<h.next) h A n K xs→Sa r (fun z=>F z∧z<h.next) h6 A n K xs:=fun s=>s.off m fun z hz e=>(dj gT).2 hD (e ▸ hz)
 refine ⟨h5,s5,fun _=>⟨_,_,_,(hg 2 k35).trans c4,_,_,_,_,_,ldN3' (ldC_of g5 rfl) (ldC_of g5 rfl) (ldC_of g5 rfl),gT,0,rfl,by omega,h6,s6,hK h6 ⟨⟨fun z=>Fa z∧z<h.next,fun z=>(Ft z∧z<h.next)∨h.next≤z,fun z=>F z∧z<h.next,?_,fun z hz=>?_,fun z hz=>hz.1⟩,m.mono fun z hz _=>.inr (hz ▸ hD.1)⟩⟩,fun t u h=>by cases h⟩
 ·refine ⟨⟨o1,by have:=m.next; omega⟩,⟨a1,a2,a3,(hg6 _).trans a4,kF a5⟩,⟨b1,b2,b3,(hg6 _).trans b4,b5.off m fun z hz _ e=>((dj z).1 hz).1 (e ▸ hD)⟩,⟨_,c2,c3,(hg6 _).trans c4,OwnP.of_elems (by rw [← hc2]; exact S.nt) (.inl hD) (by have:=m.next; omega) B6 (fun k=>?_) hK2 fun k x hx=>?_⟩,⟨d1,d2,d3,(hg6 _).trans d4,by rw [Shp.endsL S]; exact kF d5⟩,⟨y1,y2,y3,(hg6 _).trans y4,by rw [Shp.endsL S]; exact kF y5⟩,⟨f1,f2,f3,(hg6 _).trans f4,by rw [Shp.plL S]; exact kF f5⟩,hok,by rw [S.nv,S.na]; exact fw,fun z=>⟨fun hz=>⟨fun hd=>hd.elim ((dj z).1 hz).1 fun hd=>by have:=hz.2; omega,((dj z).1 hz).2⟩,fun hd hz=>hd.elim (fun hd=>(dj z).2 hd hz) fun hd=>by have:=hz.2; omega⟩⟩
  ·unfold upd
   split
   ·rfl
   ·exact hf k
  ·have hx':(N.ts.set t (setT (N.tb t) i o c))[k]? = some x:=hx
   rw [List.getElem?_set] at hx'
   unfold upd
   by_cases e:k=t
   ·subst e
    rw [if_pos rfl,if_pos ht] at hx'
    obtain rfl:=Option.some.inj hx'
    rw [if_pos rfl]
    exact ⟨A4,n',K4,rfl,((s3.nw k5).off m6 fun z hz e=>by omega).mono fun z hz _=>⟨.inr hz,by omega⟩⟩
   ·rw [if_neg (fun h=>e h.symm)] at hx'
    rw [if_neg e]
    exact cTab.mono (fun z hz _=>⟨.inl hz.1,hz.2⟩) (cTab.keep (fun z hz hl=>m.get z hl hz.2) m.next (hrel k x hx'))
 ·rcases hz with hz | hz | hz
  ·exact .inl hz.1
  ·exact .inr (.inl hz.1)
  ·exact .inr (.inr hz)
end
end Eva
end
end Go.Proofs.YteffnclboadalaaGreatDoor
