/-
A part of the proof of TopShut: lemmas that the last text joins. No condition.
-/
import Derived.Test.YteffnclboadalaaGreatDoorPk
import Derived.Test.YteffnclboadalaaGreatDoorPh
import Derived.Test.YteffnclboadalaaGreatDoorPl
import Derived.WalkKit
import Derived.OpenShut
namespace Go.Proofs.YteffnclboadalaaGreatDoor
set_option linter.unusedVariables false
set_option linter.unusedSimpArgs false
set_option linter.unusedSectionVars false
set_option linter.unnecessarySimpa false
section
open Go Go.RowKit Go.ChangeShapes Go.WideShapes Go.Deep Go.Joins
namespace Eva
def cellB (w:World) (b:Nat):Bool:=match w.heap[b]? with
 | some (.cells _ _ _)=>true
 | _=>false
def imgV (C:Nat→Bool):Value→Value
 | .bool b=>.bool b
 | .int k n=>.int k n
 | .string x=>.string x
 | .pointer none=>.pointer none
 | .slice none 0 0=>.slice none 0 0
 | .slice (some ⟨b,o,none⟩) n c=>cond (C b) (.slice (some ⟨b,o,none⟩) n (cx c)) (cond (Nat.beq n 0) nowhere junk)
 | .slice (some _) 0 _=>nowhere
 | _=>junk
def imgR (w:World):Ren:=⟨fun n=>cond (cellB w n) (some n) none,fun _=>0⟩
theorem imgR_some {w:World} {n b:Nat} (h:imgR w n=some b):b=n∧∃ c e f,w.heap[n]? = some (.cells c e f):=by
 unfold imgR at h
 simp only at h
 cases hc:cellB w n with
 | false=>rw [hc] at h; cases h
 | true=>
  rw [hc] at h
  injection h with h
  refine ⟨h.symm,?_⟩
  unfold cellB at hc
  split at hc
  ·rename_i c e f hg; exact ⟨c,e,f,hg⟩
  ·cases hc
theorem imgR_of {w:World} {n:Nat} (h:cellB w n=true):imgR w n=some n:=by
 unfold imgR
 simp only [h,cond_true]
theorem imgV_vr (w:World) (v:Value):VR (imgR w) (imgV (cellB w) v) v:=by
 unfold imgV
 split
 ·exact .bool _
 ·exact .int _ _
 ·exact .string _
 ·exact .ptr0
 ·exact .sl0
 ·rename_i b o n c
  cases hc:cellB w b with
  | true=>
   refine .sl (imgR_of hc) (CR.cx c) fun h=>?_
   unfold cx at h
   omega
  | false=>
   cases hn:Nat.beq n 0 with
   | true=>
    have:=beq_eq hn
    subst this
    exact .far
   | false=>exact .any _ rfl
 ·exact .far
 ·rename_i h1 _ _ _ _ _ _
  refine .any _ ?_
  unfold notB
  split
  ·exact absurd rfl (h1 _)
  ·rfl
def imgO (w:World) (n:Nat):Option AO:=match w.heap[n]? with
 | some (.cells c e _)=>some (.cells (c.toList.map (imgV (cellB w))) e true)
 | _=>none
noncomputable def imgT (w:World):Nat→Tr AO
 | 0=>.nil
 | n+1=>(imgT w n).set n (imgO w n)
noncomputable def imgH (w:World):AH:=⟨w.heap.size,imgT w w.heap.size⟩
theorem imgT_get (w:World) (b:Nat):∀ n,(imgT w n).get b=if b<n then imgO w b else none
 | 0=>by rw [if_neg (Nat.not_lt_zero _)]; rfl
 | n+1=>by
  show ((imgT w n).set n (imgO w n)).get b=_
  by_cases e:b=n
  ·subst e; rw [Tr.get_set,if_pos (Nat.lt_succ_self _)]
  ·rw [Tr.get_set_ne _ _ (fun h=>e h.symm),imgT_get w b n]
   by_cases h:b<n
   ·rw [if_pos h,if_pos (by omega)]
   ·rw [if_neg h,if_neg (by omega)]
theorem imgH_get (w:World) (b:Nat):(imgH w).get b=imgO w b:=by
 show (imgT w w.heap.size).get b=_
 rw [imgT_get]
 by_cases h:b<w.heap.size
 ·rw [if_pos h]
 ·rw [if_neg h]
  unfold imgO
  rw [Array.getElem?_eq_none (by omega)]
theorem img_hr (P:Program) (w:World):HR P (imgR w) (imgH w) w where
 lt:=fun n b h=>by
  obtain ⟨rfl,c,e,f,hg⟩:=imgR_some h
  have:=(Array.getElem?_eq_some_iff.1 hg).1
  exact ⟨this,this⟩
 obj:=fun n b o h ho=>by
  obtain ⟨rfl,c,e,f,hg⟩:=imgR_some h
  rw [imgH_get] at ho
  unfold imgO at ho
  rw [hg] at ho
  injection ho with ho
  subst ho
  refine ⟨_,hg,.cells (fun i v hv=>?_) (fun h=>by cases h) (fun i _=>by simp [imgR])⟩
  rw [List.getElem?_map] at hv
  cases hc:c.toList[i]? with
  | none=>rw [hc] at hv; cases hv
  | some v'=>
   rw [hc] at hv
   injection hv with hv
   subst hv
   exact ⟨v',by simpa using hc,imgV_vr w v'⟩
 inj:=fun n m b o p h k _ _=>by
  obtain ⟨rfl,_⟩:=imgR_some h
  exact (imgR_some k).1
 none:=fun n hn=>by
  rw [imgH_get]
  unfold imgO
  rw [Array.getElem?_eq_none hn]
theorem img_ext {P:Program} {w w':World} {σ':Ren} {h':AH} (s:St P (imgR w) (imgH w) w σ' h' w'):Ext w w':=by
 refine ⟨s.os,s.tape,s.output,s.size,fun b hb=>?_⟩
 cases hc:cellB w b with
 | true=>
  have h1:=imgR_of hc
  obtain ⟨-,c,e,f,hg⟩:=imgR_some h1
  have h2:(imgH w).get b=some (.cells (c.toList.map (imgV (cellB w))) e true):=by
   rw [imgH_get]; unfold imgO; rw [hg]
  exact (s.ro b b _ _ h1 h2).2
 | false=>
  refine s.frame b hb fun n hn=>?_
  obtain ⟨rfl,c,e,f,hg⟩:=imgR_some hn
  unfold cellB at hc
  rw [hg] at hc
  cases hc
section
variable {w:World}
theorem img_ld {b o:Nat} {v:Value} (h:w.cell? ⟨b,o,none⟩=some v):ldC (imgH w) b o=some (imgV (cellB w) v):=by
 unfold World.cell? at h
 simp only at h
 have hlt:b<w.heap.size:=by
  rcases Nat.lt_or_ge b w.heap.size with h1 | h1
  ·exact h1
  ·rw [Array.getElem?_eq_none h1] at h; cases h
 cases hg:w.heap[b]? with
 | none=>rw [hg] at h; cases h
 | some ob=>
  rw [hg] at h
  cases ob with
  | cells c e f=>
   have h1:c[o]? = some v:=by simpa using h
   have h2:(imgH w).get b=some (.cells (c.toList.map (imgV (cellB w))) e true):=by
    rw [imgH_get]; unfold imgO; rw [hg]
   rw [ldC_bk h2,List.getElem?_map,Array.getElem?_toList,h1]
   rfl
  | _=>simp at h
theorem cellB_of {b o:Nat} {v:Value} (h:w.cell? ⟨b,o,none⟩=some v):cellB w b=true:=by
 unfold World.cell? at h
 simp only at h
 unfold cellB
 cases hg:w.heap[b]? with
 | none=>rw [hg] at h; cases h
 | some ob=>
  rw [hg] at h
  cases ob with
  | cells c e f=>rfl
  | _=>simp at h
end
section
variable {H:Type} {enc:TypeId × Value→H} {P:Program} {w:World} {base:Nat} {sp:Nat→Bool} {held:Bool}
abbrev inW (w:World):Nat→Prop:=fun b=>b<w.heap.size
theorem Sz.of_trod {α:Type} {r:Rc α} {t e:TypeId} (ht:P.underlying t=some (.slice e)) (hc:P.cellsOf e=r.size) (hpos:0<r.size)
  (he:∀ n cs x,DataW.trod enc P w base sp held n e cs=some x→∃ a,r.rel (inW w) (imgH w) (cs.map (imgV (cellB w))) a) {fuel:Nat} {cs:List Value} {x:DataW H × List MemPlace} (h:DataW.trod enc P w base sp held fuel t cs=some x) :
  ∃ A n c A' K xs,cs = [.slice A n c]∧n≤maxLen∧imgV (cellB w) (.slice A n c) = .slice A' n K∧Sz r (inW w) (imgH w) A' n K xs:=by
 rcases open_slice ht h with ⟨hcs,hx⟩ | ⟨a,len,cap,m,n,D,Pl,hcs,hb,hl,hm,hmm,hx,hel⟩
 ·exact ⟨none,0,0,none,0,[],hcs,by unfold maxLen; omega,rfl,rfl,fun h=>absurd h (Nat.lt_irrefl _)⟩
 ·have hlm:len≤m:=by rw [hmm]; split <;> omega
  have hel':∀ i,i<len→∃ y:List Value × α,w.cells? base (a.add (i * P.cellsOf e)) (P.cellsOf e)=some y.1∧r.rel (inW w) (imgH w) (y.1.map (imgV (cellB w))) y.2:=fun i hi=>by
   obtain ⟨cs',h1,h2⟩:=hel i (by omega)
   obtain ⟨z,hz⟩:=he _ _ _ h2
   exact ⟨(cs',z),h1,hz⟩
  rcases Nat.eq_zero_or_pos len with h0 | h0
  ·subst h0
   obtain ⟨b,o,spot⟩:=a
   have:∃ A' K,imgV (cellB w) (.slice (some ⟨b,o,spot⟩) 0 cap) = .slice A' 0 K:=by
    cases spot with
    | none=>
     show ∃ A' K,cond (cellB w b) (.slice (some ⟨b,o,none⟩) 0 (cx cap)) (cond (Nat.beq 0 0) nowhere junk)=_
     cases cellB w b with
     | true=>exact ⟨_,_,rfl⟩
     | false=>exact ⟨_,_,rfl⟩
    | some s=>exact ⟨_,_,rfl⟩
   obtain ⟨A',K,hi⟩:=this
   exact ⟨_,0,cap,A',K,[],hcs,by unfold maxLen; omega,hi,rfl,fun h=>absurd h (Nat.lt_irrefl _)⟩
  ·obtain ⟨y0,-,-⟩:=hel' 0 h0
   haveI:Inhabited (List Value × α):=⟨y0⟩
   obtain ⟨f,hf⟩:=choose_lt hel'
   obtain ⟨b,o,spot⟩:=a
   have hsz:∀ i,i<len→(f i).1.length=r.size∧∀ j,j<r.size→w.cell? ((Addr.mk b o spot).add (i * r.size+j))=(f i).1[j]?:=fun i hi=>by
    obtain ⟨h1,h2⟩:=hf i hi
    rw [hc] at h1
    obtain ⟨-,h3,h4⟩:=World.cells?_some h1
    exact ⟨h3,fun j hj=>by rw [← h4 j hj,add_add]⟩
   have hspot:spot=none:=by
    obtain ⟨h1,h2⟩:=hsz 0 h0
    have h3:=h2 0 hpos
    rw [List.getElem?_eq_getElem (by omega)] at h3
    simpa [Addr.add] using World.cell?_spot h3
   subst hspot
   have hfst:∃ v,w.cell? ⟨b,o+(0 * r.size+0),none⟩=some v:=by
    obtain ⟨h1,h2⟩:=hsz 0 h0
    have h3:=h2 0 hpos
    rw [List.getElem?_eq_getElem (by omega),Addr.add_lit] at h3
    exact ⟨_,h3⟩
   obtain ⟨v0,hv0⟩:=hfst
   have hB:=cellB_of hv0
   have hlt:b<w.heap.size:=cell_lt hv0
   refine ⟨some ⟨b,o,none⟩,len,cap,some ⟨b,o,none⟩,cx cap,(List.range len).map fun i=>(f i).2,hcs,by omega,?_,by simp,fun _=>⟨b,o,rfl,hlt,hlt,fun k x hk=>?_⟩⟩
   ·show cond (cellB w b) _ _=_
    rw [hB]; rfl
   ·rw [List.getElem?_map] at hk
    by_cases hkl:k<len
    ·simp [hkl] at hk
     subst hk
     obtain ⟨h1,h2⟩:=hsz k hkl
     refine ⟨(f k).1.map (imgV (cellB w)),fun j u hu=>?_,(hf k hkl).2⟩
     rw [List.getElem?_map] at hu
     cases hj':(f k).1[j]? with
     | none=>rw [hj'] at hu; cases hu
     | some u'=>
      rw [hj'] at hu
      obtain rfl:=Option.some.inj hu
      have hj:j<r.size:=by rw [← h1]; exact (List.getElem?_eq_some_iff.1 hj').1
      refine img_ld ?_
      rw [← hj',← h2 j hj,Addr.add_lit]
    ·simp [hkl] at hk
theorem relZ_int {k:IntKind} {t:TypeId} (ht:P.underlying t=some (.int k)):∀ n cs (x:DataW H × List MemPlace),DataW.trod enc P w base sp held n t cs=some x→∃ a,(Rc.int k).rel (inW w) (imgH w) (cs.map (imgV (cellB w))) a:=fun n cs x h=>by
 obtain ⟨a,rfl,-,hw⟩:=DataW.trod_int ht h
 exact ⟨a,rfl⟩
theorem relZ_slice {α:Type} {r:Rc α} {t:TypeId} (h:∀ n cs (x:DataW H × List MemPlace),DataW.trod enc P w base sp held n t cs=some x→∃ A n c A' K xs,cs = [.slice A n c]∧n≤maxLen∧imgV (cellB w) (.slice A n c) = .slice A' n K∧Sz r (inW w) (imgH w) A' n K xs) :
  ∀ n cs (x:DataW H × List MemPlace),DataW.trod enc P w base sp held n t cs=some x→∃ a,(Rc.sliceZ r).rel (inW w) (imgH w) (cs.map (imgV (cellB w))) a:=fun n cs x hx=>by
 obtain ⟨A,n,c,A',K,xs,rfl,-,hi,hs⟩:=h n cs x hx
 exact ⟨xs,A',n,K,by rw [List.map_singleton,hi],hs⟩
theorem relZ_tri {k0 k1 k2:IntKind} {t:TypeId} {f0 f1 f2:Field} (hs:P.underlying t=some (.struct #[f0,f1,f2])) (hone:oneCellFields P #[f0,f1,f2]=true) (hC:P.cellsOf t=3)
  (t0:P.underlying f0.type=some (.int k0)) (t1:P.underlying f1.type=some (.int k1)) (t2:P.underlying f2.type=some (.int k2)) :
  ∀ n cs (x:DataW H × List MemPlace),DataW.trod enc P w base sp held n t cs=some x→∃ a,(Rc.tri k0 k1 k2).rel (inW w) (imgH w) (cs.map (imgV (cellB w))) a:=fun n cs x h=>by
 obtain ⟨v0,v1,v2,y0,y1,y2,n,rfl,h0,h1,h2⟩:=cells3 hs hone hC h
 obtain ⟨a0,e0,-,w0⟩:=DataW.trod_int t0 h0
 obtain ⟨a1,e1,-,w1⟩:=DataW.trod_int t1 h1
 obtain ⟨a2,e2,-,w2⟩:=DataW.trod_int t2 h2
 simp at e0 e1 e2
 subst e0 e1 e2
 exact ⟨(a0,a1,a2),rfl⟩
theorem relZ_table {t u:TypeId} {f0 f1 f2:Field} (hs:P.underlying t=some (.struct #[f0,f1,f2])) (hone:oneCellFields P #[f0,f1,f2]=true) (hC:P.cellsOf t=3)
  (t0:P.underlying f0.type=some (.int .i64)) (t1:P.underlying f1.type=some (.int .i64)) (t2:P.underlying f2.type=some (.slice u)) (hu:P.underlying u=some (.int .i64)) (cu:P.cellsOf u=1) :
  ∀ n cs (x:DataW H × List MemPlace),DataW.trod enc P w base sp held n t cs=some x→∃ a,Rc.tableZ.rel (inW w) (imgH w) (cs.map (imgV (cellB w))) a:=fun n cs x h=>by
 obtain ⟨v0,v1,v2,y0,y1,y2,n,rfl,h0,h1,h2⟩:=cells3 hs hone hC h
 obtain ⟨a0,e0,-,w0⟩:=DataW.trod_int t0 h0
 obtain ⟨a1,e1,-,w1⟩:=DataW.trod_int t1 h1
 obtain ⟨A,m,c,A',K,zs,e2,-,hi,hsl⟩:=Sz.of_trod (r:=Rc.int .i64) t2 cu (by decide) (relZ_int hu) h2
 simp at e0 e1 e2
 subst e0 e1 e2
 exact ⟨(a0,a1,zs),A',m,K,by simp only [List.map_cons,List.map_nil,hi]; rfl,hsl⟩
end
end Eva
end
section
open Go Go.RowKit Go.ChangeShapes Go.WideShapes Go.ChangeAt Go.Joins
namespace Eva
section
variable {H:Type} {enc:TypeId × Value→H} {w:World} {base:Nat} {sp:Nat→Bool} {held:Bool}
set_option maxRecDepth 100000 in
theorem netZ_opens {r:Reach} {b0:Nat} {v:Value} {d:DataW H} {p:List MemPlace} (hv:Value.okWide Tryz.prog w r b0 26 v) (h:DataW.Trod enc Tryz.prog w base sp held 26 v d p) :
  ∃ u0 u1 u2 A0 n0 K0 A1 n1 K1 A2 n2 K2 N,v = .agg #[u0,u1,u2]∧imgV (cellB w) u0 = .slice A0 n0 K0∧imgV (cellB w) u1 = .slice A1 n1 K1∧imgV (cellB w) u2 = .slice A2 n2 K2∧NetZ (imgH w) (inW w) A0 n0 K0 A1 n1 K1 A2 n2 K2 N:=by
 obtain ⟨v0,v1,v2,y0,y1,y2,n,rfl,-,-,h0,h1,h2⟩:=open_agg3 Tryz.underlying26 (by kernel_rfl) (by kernel_rfl) hv h
 obtain ⟨A0,n0,c0,B0,K0,verts,e0,-,i0,s0⟩:=Sz.of_trod (r:=Rc.tri .i64 .i64 .i64) Tryz.underlying22 (by kernel_rfl) (by decide) (relZ_tri Tryz.underlying127 (by kernel_rfl) (by kernel_rfl) Tryz.underlying3 Tryz.underlying3 Tryz.underlying3) h0
 obtain ⟨A1,n1,c1,B1,K1,arcs,e1,-,i1,s1⟩:=Sz.of_trod (r:=Rc.tri .i64 .i64 .i64) Tryz.underlying23 (by kernel_rfl) (by decide) (relZ_tri Tryz.underlying45 (by kernel_rfl) (by kernel_rfl) Tryz.underlying3 Tryz.underlying3 Tryz.underlying2) h1
 obtain ⟨A2,n2,c2,B2,K2,types,e2,-,i2,s2⟩:=Sz.of_trod (r:=Rc.tableZ) Tryz.underlying24 (by kernel_rfl) (by decide) (relZ_table Tryz.underlying125 (by kernel_rfl) (by kernel_rfl) Tryz.underlying3 Tryz.underlying3 Tryz.underlying35 Tryz.underlying2 (by kernel_rfl)) h2
 simp only [List.cons.injEq,and_true] at e0 e1 e2
 subst e0 e1 e2
 exact ⟨_,_,_,_,_,_,_,_,_,_,_,_,⟨verts,arcs,types⟩,rfl,i0,i1,i2,s0,s1,s2⟩
set_option maxRecDepth 100000 in
theorem partZ_opens {r:Reach} {b0:Nat} {v:Value} {d:DataW H} {p:List MemPlace} (hv:Value.okWide Tryz.prog w r b0 29 v) (h:DataW.Trod enc Tryz.prog w base sp held 29 v d p) :
  ∃ u A n K ps,v = .agg #[u]∧n≤maxLen∧imgV (cellB w) u = .slice A n K∧Sz (Rc.sliceZ cI) (inW w) (imgH w) A n K ps:=by
 obtain ⟨cs,rfl,hsz⟩:=okWide_struct Tryz.underlying29 hv
 have hc:Tryz.prog.cellsOf 29=1:=by kernel_rfl
 have hc2:Tryz.prog.cellsOf 27=1:=by kernel_rfl
 rw [hc] at hsz
 obtain ⟨l⟩:=cs
 match l,hsz with
 | [v0],_=>
  obtain ⟨fuel,hf⟩:=h
  obtain ⟨xs,n,-,-,-,hl,hx⟩:=DataW.trod_struct Tryz.underlying29 hf
  match xs,hl with
  | [y0],_=>
   have h0:DataW.trod enc Tryz.prog w base sp held n 27 (List.take (Tryz.prog.cellsOf 27) [v0])=some y0:=hx 0 _ rfl
   rw [hc2] at h0
   obtain ⟨A,m,c,B,K,ps,e0,hm,i0,s0⟩:=Sz.of_trod (r:=Rc.sliceZ cI) Tryz.underlying27 (by kernel_rfl) (by decide)
    (relZ_slice fun n cs x hh=>Sz.of_trod (r:=cI) Tryz.underlying43 (by kernel_rfl) (by decide) (relZ_int Tryz.underlying3) hh) (by simpa using h0)
   simp only [List.cons.injEq,and_true] at e0
   subst e0
   exact ⟨_,B,m,K,ps,rfl,hm,i0,s0⟩
end
end Eva
end
end Go.Proofs.YteffnclboadalaaGreatDoor
