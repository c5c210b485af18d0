/-
Lemmas for TopAlone. No condition.
-/
import Derived.Test.YtaagdjkinbemcaaGreatDoorSo2
import Derived.Test.YtaagdjkinbemcaaGreatDoorErr4
import Derived.Shelf.SlSortCmp.NoneTotal
import Derived.Ground.SlsfProg
namespace Go.Proofs
def Tryz.laysSortSav_ren : Go.Shelf.Ren := ⟨fun | 6 => 138 | 15 => 146 | 14 => 208 | 28 => 218 | 29 => 219 | 20 => 268 | 21 => 269 | 22 => 270 | 23 => 271 | 24 => 272 | 25 => 273 | 26 => 274 | 27 => 275 | 46 => 310 | 47 => 277 | 48 => 278 | 49 => 311 | 50 => 312 | 57 => 326 | n => n, fun | 22 => 176 | 24 => 179 | 25 => 273 | 3 => 3 | 39 => 279 | 0 => 0 | 53 => 368 | 55 => 222 | 4 => 4 | 46 => 362 | 45 => 361 | 50 => 267 | 5 => 5 | 9 => 9 | 66 => 419 | 70 => 423 | 76 => 445 | 77 => 446 | n => n, fun | n => n⟩
theorem Tryz.laysSortSav : Go.Proofs.SlLaysF0.n6 Tryz.prog Tryz.laysSortSav_ren := {
  mixed := by kernel_rfl
  f6 := ⟨Tryz.f138.name, by decide, Tryz.func138.trans (congrArg some (by kernel_rfl))⟩
  f14 := ⟨Tryz.f208.name, by decide, Tryz.func208.trans (congrArg some (by kernel_rfl))⟩
  f15 := Tryz.func146.trans (congrArg some (by kernel_rfl))
  f20 := ⟨Tryz.f268.name, by decide, Tryz.func268.trans (congrArg some (by kernel_rfl))⟩
  f21 := ⟨Tryz.f269.name, by decide, Tryz.func269.trans (congrArg some (by kernel_rfl))⟩
  f22 := ⟨Tryz.f270.name, by decide, Tryz.func270.trans (congrArg some (by kernel_rfl))⟩
  f23 := ⟨Tryz.f271.name, by decide, Tryz.func271.trans (congrArg some (by kernel_rfl))⟩
  f24 := ⟨Tryz.f272.name, by decide, Tryz.func272.trans (congrArg some (by kernel_rfl))⟩
  f25 := ⟨Tryz.f273.name, by decide, Tryz.func273.trans (congrArg some (by kernel_rfl))⟩
  f26 := ⟨Tryz.f274.name, by decide, Tryz.func274.trans (congrArg some (by kernel_rfl))⟩
  f27 := ⟨Tryz.f275.name, by decide, Tryz.func275.trans (congrArg some (by kernel_rfl))⟩
  f28 := Tryz.func218.trans (congrArg some (by kernel_rfl))
  f29 := Tryz.func219.trans (congrArg some (by kernel_rfl))
  f46 := ⟨Tryz.f310.name, by decide, Tryz.func310.trans (congrArg some (by kernel_rfl))⟩
  f47 := Tryz.func277.trans (congrArg some (by kernel_rfl))
  f48 := Tryz.func278.trans (congrArg some (by kernel_rfl))
  f49 := ⟨Tryz.f311.name, by decide, Tryz.func311.trans (congrArg some (by kernel_rfl))⟩
  f50 := ⟨Tryz.f312.name, by decide, Tryz.func312.trans (congrArg some (by kernel_rfl))⟩
  f57 := ⟨Tryz.f326.name, by decide, Tryz.func326.trans (congrArg some (by kernel_rfl))⟩
  t0 := Tryz.underlying0
  a0 := Tryz.isAgg0
  z0 := Tryz.sizeOf0
  v0 := Tryz.zeroValue0
  t3 := Tryz.underlying3
  a3 := Tryz.isAgg3
  z3 := Tryz.sizeOf3
  v3 := Tryz.zeroValue3
  t4 := Tryz.underlying4
  a4 := Tryz.isAgg4
  z4 := Tryz.sizeOf4
  v4 := Tryz.zeroValue4
  t5 := Tryz.underlying5
  a5 := Tryz.isAgg5
  z5 := Tryz.sizeOf5
  v5 := Tryz.zeroValue5
  t9 := Tryz.underlying9
  a9 := Tryz.isAgg9
  z9 := Tryz.sizeOf9
  v9 := Tryz.zeroValue9
  t22 := Tryz.underlying176
  a22 := Tryz.isAgg176
  z22 := Tryz.sizeOf176
  v22 := Tryz.zeroValue176
  t25 := Tryz.underlying273
  a25 := Tryz.isAgg273
  z25 := Tryz.sizeOf273
  v25 := Tryz.zeroValue273
  t39 := Tryz.underlying279
  a39 := Tryz.isAgg279
  z39 := Tryz.sizeOf279
  v39 := Tryz.zeroValue279
  t45 := Tryz.underlying361
  a45 := Tryz.isAgg361
  z45 := Tryz.sizeOf361
  v45 := Tryz.zeroValue361
  t46 := Tryz.underlying362
  a46 := Tryz.isAgg362
  z46 := Tryz.sizeOf362
  v46 := Tryz.zeroValue362
  t50 := Tryz.underlying267
  a50 := Tryz.isAgg267
  z50 := Tryz.sizeOf267
  v50 := Tryz.zeroValue267
  t53 := Tryz.underlying368
  a53 := Tryz.isAgg368
  z53 := Tryz.sizeOf368
  v53 := Tryz.zeroValue368
  t55 := Tryz.underlying222
  a55 := Tryz.isAgg222
  z55 := Tryz.sizeOf222
  v55 := Tryz.zeroValue222
  t66 := Tryz.underlying419
  a66 := Tryz.isAgg419
  z66 := Tryz.sizeOf419
  v66 := Tryz.zeroValue419
  t70 := Tryz.underlying423
  a70 := Tryz.isAgg423
  z70 := Tryz.sizeOf423
  v70 := Tryz.zeroValue423
  t76 := Tryz.underlying445
  a76 := Tryz.isAgg445
  z76 := Tryz.sizeOf445
  v76 := Tryz.zeroValue445
  t77 := Tryz.underlying446
  a77 := Tryz.isAgg446
  z77 := Tryz.sizeOf446
  v77 := Tryz.zeroValue446 }
end Go.Proofs
namespace Go.Proofs.YtaagdjkinbemcaaGreatDoor
set_option linter.unusedVariables false
set_option linter.unusedSimpArgs false
set_option linter.unusedSectionVars false
set_option linter.unnecessarySimpa false
open Go Go.RowKit Go.Shelf Go.Lib Go.Sort
namespace Eva
theorem EU (x y:Int×Int×Int):ltOf mD x y=lG x y:=by
 obtain⟨a1,a2,a3⟩:=x
 obtain⟨b1,b2,b3⟩:=y
 unfold ltOf lG mD Gx Lib.compareInt
 simp only
 rw[Bool.eq_iff_iff,decide_eq_true_iff,decide_eq_true_iff]
 repeat' split
 all_goals (simp;try omega)
theorem od:ltOf mD=lG:=by funext x y;exact EU x y
theorem GC:SWO (ltOf mD):=by
 rw[od]
 refine⟨λx=>?_,λx y z h1 h2=>?_,λx y z h1 h2=>?_⟩ <;>simp only[lG,decide_eq_true_eq,decide_eq_false_iff_not]at * <;>omega
theorem GD (x y:Int×Int×Int) (h1:ltOf mD x y=false) (h2:ltOf mD y x=false):x=y:=by
 rw[od]at h1 h2
 obtain⟨a1,a2,a3⟩:=x
 obtain⟨b1,b2,b3⟩:=y
 simp only[lG,decide_eq_false_iff_not]at h1 h2
 have:a1=b1/\a2=b2/\a3=b3:=by omega
 obtain⟨rfl,rfl,rfl⟩:=this
 rfl
theorem oT:∀{l:List Value}{zs:List (Int×Int×Int)},jg l=some zs->l=zs.flatMap aX
 | [],zs,h=>by
  obtain rfl:=Option.some.inj h
  rfl
 | v :: l,zs,h=>by
  unfold jg at h
  split at h
  .rename_i h1;cases h1
  .rename_i x y z l' h1
   injection h1 with h2 h3
   subst h2 h3
   cases hq:jg l' with
   | none=>rw[hq]at h;cases h
   | some ys=>
    rw[hq]at h
    obtain rfl:=Option.some.inj h
    have:=oT hq
    rw[this];rfl
  .cases h
 termination_by l=>l.length
 decreasing_by all_goals simp_all;try omega
theorem ju:∀zs:List (Int×Int×Int),(zs.flatMap aX).length=zs.length*3
 | []=>rfl
 | z :: zs=>by
  show(aX z ++ zs.flatMap aX).length=_
  rw[List.length_append,ju zs]
  simp[aX];omega
theorem xK:∀(zs:List (Int×Int×Int)) (t:Nat),t<zs.length*3->(zs.flatMap aX)[t]? = some ((aX zs.toArray[t / 3]!)[t % 3]!)
 | [],t,h=>by simp at h
 | z :: zs,0,h=>rfl
 | z :: zs,1,h=>rfl
 | z :: zs,2,h=>rfl
 | z :: zs,t+3,h=>by
  have ih:=xK zs t (by simp at h;omega)
  show(aX z ++ zs.flatMap aX)[t+3]? = _
  rw[List.getElem?_append_right (by simp[aX])]
  have e1:t+3 - (aX z).length=t:=by simp[aX]
  rw[e1,ih,show(t+3) / 3=t / 3+1 by omega,show(t+3) % 3=t % 3 by omega]
  simp
theorem tH (zs:List (Int×Int×Int)):flatK aX 3 zs.toArray=(zs.flatMap aX).toArray:=by
 refine ext_get! (by rw[size_flatK];show _=(zs.flatMap aX).length;rw[ju];rfl) λt ht=>?_
 have ht':t<zs.length*3:=by simpa using ht
 rw[get_flatK _ _ _ t (by simpa using ht')]
 have:=xK zs t ht'
 simp[this]
theorem xL {zs:List (Int×Int×Int)}{v:Value}(h:v∈zs.flatMap aX):∃x,v = .int .i64 x:=by
 obtain⟨z,-,hz⟩:=List.mem_flatMap.1 h
 unfold aX at hz
 simp at hz
 rcases hz with rfl | rfl | rfl <;>exact⟨_,rfl⟩
theorem Cs (blk off cap:Nat) (zs:List (Int×Int×Int)) (w:World) (hH:w.cell? ⟨0,0,none⟩=some (.iface 284 (.agg #[.pointer (some ⟨7,53,none⟩)]))) (hne:blk≠0)
  (hR:Holds id w blk off (zs.flatMap aX).toArray) (hblk:blk<w.heap.size) (hsz:zs.length<4611686018427387904) :
  Calls Tryz.prog 138 #[.slice (some ⟨blk,off,none⟩) zs.length cap,.func (.func 139) #[] #[]] w λe w'=>
   e = .returned (.tuple #[])/\∃n os,w' = grow (putRow id (Sort.ahead w n) blk off ((zs.mergeSort λx y=>!lG y x).flatMap aX).toArray) os:=by
 have hlt:=lV hH
 have hcmp:CmpLays Tryz.prog 139 #[] aX 3 mD blk off zs.toArray.size w:=λm os dk hs x y=>by
  refine zk x y _ ?_
  have:(sortWorldK aX 3 w blk off m dk os).heap[0]? = w.heap[0]?:=by
   unfold sortWorldK grow putRowK putRow mapBlock Sort.ahead
   simp only
   rw[Array.getElem?_append_left (by simpa using hlt)]
   simp[Array.getElem?_modify,hne]
  unfold World.cell? at hH⊢
  simp only[this]
  exact hH
 have h:=AnyQ.slices_SortFunc_total Tryz.laysSortSav 3 (λw=>by kernel_rfl) (λw=>by kernel_rfl) aX (λ_=>rfl) (λx v hv=>by
  unfold aX at hv
  simp at hv
  rcases hv with rfl | rfl | rfl <;>rfl) mD GC 139 #[] blk off cap zs.toArray w (enters_of Tryz.func139 (by kernel_rfl) rfl) hcmp (by unfold HoldsK;rw[tH];exact hR) hblk (by simpa using hsz) GD
 refine h.mono λe w' ⟨he,n,os,hw⟩=>⟨he,n,os,?_⟩
 rw[hw,od]
 unfold sortWorldK putRowK
 rw[tH]
theorem EV {σ:aH}{w w':World}{h:AH}{b b' o m:Nat}{c vs:List Value}{e0:TypeId}{os:Array Obj}(hr:HR Tryz.prog σ h w) (hσ:σ b=some b') (hg:h.get b=some (.cells c e0 false)) (hl:o+vs.length<=c.length) (hv:∀v∈vs,VR σ v v)
  (hw:w' = grow (putRow id (Sort.ahead w m) b' o vs.toArray) os):St Tryz.prog σ h w σ (h.put b (.cells (c.take o ++ vs ++ c.drop (o+vs.length)) e0 false)) w':=by
 obtain⟨o',hob,hor⟩:=hr.obj b b' _ hσ hg
 have hblt:=(hr.lt b b' hσ).2
 cases hor with
 | @cells _ cc _ _ f' hcell hfree hcap=>
  have hcl:c.length<=cc.size:=by
   rcases Nat.lt_or_ge cc.size c.length with h1 | h1
   .obtain⟨u',q1,-⟩:=hcell cc.size _ (List.getElem?_eq_getElem h1)
    simp at q1
   .exact h1
  obtain⟨w1,hw1⟩:∃w1,putRow id (Sort.ahead w m) b' o vs.toArray=w1:=⟨_,rfl⟩
  have hsame:vR b' w w1:=by
   subst hw1
   refine⟨rfl,rfl,⟨rfl,Nat.le_add_right _ _⟩,by rw[size_putRow];rfl,λx hx=>?_⟩
   unfold putRow mapBlock
   have hne:b'≠x:=λe=>hx e.symm
   simp[Array.getElem?_modify,hne]
  have hblk:w1.heap[b']? = some (.cells (putCells id o vs.toArray cc) e0 f'):=by
   subst hw1
   unfold putRow mapBlock
   have:(Sort.ahead w m).heap[b']? = some (.cells cc e0 f'):=hob
   simp only[Array.getElem?_modify,if_true,this]
   rfl
  have hor1:OR Tryz.prog σ b' (.cells (c.take o ++ vs ++ c.drop (o+vs.length)) e0 false) (.cells (putCells id o vs.toArray cc) e0 f'):=by
   have hps:(putCells id o vs.toArray cc).size=cc.size:=by unfold putCells;simp
   refine .cells (λi v hi=>?_) (λh=>by rw[hps];exact hfree h) (λi hi=>by rw[hps];exact hcap i hi)
   have hil:=(List.getElem?_eq_some_iff.1 hi).1
   rw[List.length_append,List.length_append,List.length_take,List.length_drop]at hil
   have hic:i<cc.size:=by omega
   have hpi:(putCells id o vs.toArray cc)[i]? = some (if o<=i/\i<o+vs.toArray.size then id vs.toArray[i - o]! else cc[i]):=by
    unfold putCells
    rw[Array.getElem?_mapIdx,Array.getElem?_eq_getElem hic]
    rfl
   by_cases h1:i<o
   .rw[List.getElem?_append_left (by rw[List.length_append,List.length_take];omega),List.getElem?_append_left (by rw[List.length_take];omega),List.getElem?_take,if_pos h1]at hi
    obtain⟨u',q1,q2⟩:=hcell i v hi
    refine⟨u',?_,q2⟩
    rw[hpi,if_neg (by omega),<-Array.getElem?_eq_getElem hic]
    exact q1
   .by_cases h2:i<o+vs.length
    .rw[List.getElem?_append_left (by rw[List.length_append,List.length_take];omega),List.getElem?_append_right (by rw[List.length_take];omega),List.length_take]at hi
     have hio:i - min o c.length=i - o:=by omega
     rw[hio]at hi
     refine⟨v,?_,hv v (List.mem_of_getElem? hi)⟩
     rw[hpi,if_pos ⟨by omega,by simp;omega⟩]
     simp[hi]
    .rw[List.getElem?_append_right (by rw[List.length_append,List.length_take];omega),List.length_append,List.length_take,List.getElem?_drop]at hi
     have hio:o+vs.length+(i - (min o c.length+vs.length))=i:=by omega
     rw[hio]at hi
     obtain⟨u',q1,q2⟩:=hcell i v hi
     refine⟨u',?_,q2⟩
     rw[hpi,if_neg (by simp;omega),<-Array.getElem?_eq_getElem hic]
     exact q1
  rw[hw1]at hw
  have st1:St Tryz.prog σ h w σ (h.put b (.cells (c.take o ++ vs ++ c.drop (o+vs.length)) e0 false)) w1:=St.upd hr hσ hg (λc e h=>by cases h) hsame hblk hor1
  have st2:=St.grown (w':=w') st1.hr (by
   subst hw
   exact⟨⟨rfl,rfl,rfl,by simp[grow],λk hk=>by simp[grow,Array.getElem?_append,hk]⟩,Nat.le_refl _⟩)
  exact st1.trans st2
theorem GE {σ:aH}{v:Value}{f:FuncId}(h:VR σ (.func (.func f) #[] #[]) v):v = .func (.func f) #[] #[]:=by
 cases h with
 | func fn h1 h2 h3 h4=>
  rw[Array.eq_empty_of_size_eq_zero h1.symm,Array.eq_empty_of_size_eq_zero h3.symm]
theorem EW (h:AH):calls Tryz.prog (code Tryz.prog 30) 138 [.slice none 0 0,.func (.func 139) #[] #[]] h=some (.tuple #[],h):=by kernel_rfl
theorem xM {σ:aH}{w:World}{h h':AH}{args:List Value}{v:Value}(hc:gB h args=some (v,h')){args':Array Value}(hr:HR Tryz.prog σ h w) (ha:br σ args args'.toList) :
  Calls Tryz.prog 138 args' w (λe w'=>∃v' σ',e = .returned v'/\St Tryz.prog σ h w σ' h' w'/\VR σ' v v'):=by
 unfold gB at hc
 split at hc
 .rename_i x f a b
  have hc2:=af hc
  clear hc
  obtain⟨hq,hc⟩:=hc2
  rw[Bool.and_eq_true,Bool.and_eq_true]at hq
  obtain rfl:=Nat.eq_of_beq_eq_true hq.1
  obtain rfl:a = #[]:=Array.eq_empty_of_size_eq_zero (Nat.eq_of_beq_eq_true hq.2.1)
  obtain rfl:b = #[]:=Array.eq_empty_of_size_eq_zero (Nat.eq_of_beq_eq_true hq.2.2)
  obtain⟨l'⟩:=args'
  obtain⟨hlen,hval⟩:=ha
  match l',hlen with
  | [v0,v1],_=>
   have hv0:=hval 0 _ v0 rfl rfl
   obtain rfl:=GE (hval 1 _ v1 rfl rfl)
   unfold lH at hc
   split at hc
   .obtain⟨rfl,rfl⟩:=Prod.mk.inj (Option.some.inj hc)
    cases hv0 with
    | sl0=>exact Dk oe (EW h) hr ⟨rfl,hval⟩
   .rename_i bb oo n K _
    split at hc
    .rename_i c e0 hg
     cases hz:jg ((c.drop oo).take (n*3)) with
     | none=>rw[hz]at hc;cases hc
     | some zs=>
      rw[hz]at hc
      unfold nd at hc
      simp only at hc
      have hc2:=af hc
      clear hc
      obtain⟨hb,hc⟩:=hc2
      obtain⟨rfl,rfl⟩:=Prod.mk.inj (Option.some.inj hc)
      rw[Bool.and_eq_true,Bool.and_eq_true]at hb
      have hl1:=Nat.le_of_ble_eq_true hb.1.1
      have hl3:=Nat.le_of_ble_eq_true hb.2
      have hzs:=oT hz
      have hzl:zs.length=n:=by
       have h1:=congrArg List.length hzs
       rw[List.length_take,List.length_drop,ju]at h1
       omega
      obtain⟨b',c',rfl,hσ,hCR⟩:=nZ hv0 rfl
      obtain⟨o',hob,hor⟩:=hr.obj bb b' _ hσ hg
      have hblt:=(hr.lt bb b' hσ).2
      have hne:b'≠0:=λe=>by
       subst e
       obtain⟨_,_,h⟩:=hr.inv.2 bb _ hσ hg
       cases h
      cases hor with
      | @cells _ cc _ _ f' hcell hfree hcap=>
       have hH:Holds id w b' oo (zs.flatMap aX).toArray:=λj hj=>by
        have hj':j<(zs.flatMap aX).length:=by simpa using hj
        have hj2:=hj'
        rw[ju]at hj2
        have hx:(zs.flatMap aX)[j]? = some ((zs.flatMap aX)[j]'hj'):=List.getElem?_eq_getElem _
        obtain⟨x,hxi⟩:=xL (List.mem_of_getElem? hx)
        have h1:((c.drop oo).take (n*3))[j]? = some (.int .i64 x):=by rw[hzs,hx,hxi]
        rw[List.getElem?_take,if_pos (by omega),List.getElem?_drop]at h1
        obtain⟨u',q1,q2⟩:=hcell _ _ h1
        have q3:=eZ q2
        subst q3
        have hlt:=(Array.getElem?_eq_some_iff.1 q1).1
        refine⟨?_,ic hob (hfree rfl) _ hlt⟩
        unfold World.cell?
        simp only[hob]
        rw[q1]
        have h2:(zs.flatMap aX)[j]? = some (.int .i64 x):=by rw[hx,hxi]
        simp[h2]
       have hso:=Cs b' oo c' zs w hr.inv.1 hne hH hblt (by omega)
       rw[hzl]at hso
       refine hso.mono λe w' ⟨he,m,os,hw⟩=>?_
       have hvl:((zs.mergeSort λx y=>!lG y x).flatMap aX).length=n*3:=by rw[ju,List.length_mergeSort,hzl]
       have st:=EV hr hσ hg (by rw[hvl];exact hl1) (λv hv=>by obtain⟨x,rfl⟩:=xL hv;exact .int _ _) hw
       rw[hvl]at st
       exact⟨.tuple #[],σ,he,st,.tuple rfl λi v v' h=>by simp at h⟩
    .cases hc
   .cases hc
 .cases hc
theorem mF {σ:aH}{b:Nat}{v:Value}(h:VR σ (.pointer (some ⟨b,0,none⟩)) v):∃b',v = .pointer (some ⟨b',0,none⟩)/\σ b=some b':=by
 cases h with
 | ptr h=>exact⟨_,rfl,h⟩
theorem cP {σ:aH}{t:TypeId}{u v:Value}(h:VR σ (.iface t u) v):∃u',v = .iface t u'/\VR σ u u':=by
 cases h with
 | iface t h=>exact⟨_,rfl,h⟩
theorem pE {σ:aH}{w:World}{h:AH}{b b' j:Nat}{c:List Value}{e:TypeId}{f:Bool}{u:Value}(hr:HR Tryz.prog σ h w) (hσ:σ b=some b') (hg:h.get b=some (.cells c e f)) (hj:c[j]? = some u):∃u',w.cell? ⟨b',j,none⟩=some u'/\VR σ u u'/\(f=false->w.frozen? ⟨b',j,none⟩=false):=by
 obtain⟨o',hob,hor⟩:=hr.obj b b' _ hσ hg
 cases hor with
 | @cells _ cc _ _ f' hcell hfree hcap=>
  obtain⟨u',q1,q2⟩:=hcell j _ hj
  refine⟨u',?_,q2,λhf=>ic hob (hfree hf) _ (Array.getElem?_eq_some_iff.1 q1).1⟩
  unfold World.cell?
  simp only[hob]
  exact q1
theorem Ix {σ:aH}{w:World}{h h':AH}{args:List Value}{v:Value}(hc:IR h args=some (v,h')){args':Array Value}(hr:HR Tryz.prog σ h w) (ha:br σ args args'.toList) :
  Calls Tryz.prog 34 args' w (λe w'=>∃v' σ',e = .returned v'/\St Tryz.prog σ h w σ' h' w'/\VR σ' v v'):=by
 unfold IR at hc
 split at hc
 .rename_i b k
  split at hc
  .rename_i c0 c1 e e0 f0 hg
   obtain⟨rfl,rfl⟩:=Prod.mk.inj (Option.some.inj hc)
   obtain⟨l'⟩:=args'
   obtain⟨hlen,hval⟩:=ha
   match l',hlen with
   | [v0,v1],_=>
    obtain⟨u0,rfl,q0⟩:=cP (hval 0 _ v0 rfl rfl)
    obtain⟨u1,rfl,q1⟩:=cP (hval 1 _ v1 rfl rfl)
    obtain⟨b',rfl,hσ⟩:=mF q0
    obtain rfl:=eZ q1
    obtain⟨u2,p2,q2,-⟩:=pE (j:=2) hr hσ hg rfl
    obtain⟨u3,rfl,q3⟩:=cP q2
    obtain rfl:=eZ q3
    by_cases hek:e=k
    .subst hek
     refine(Hh b' e w p2).mono λev w' ⟨he,hw⟩=>?_
     rw[hw]
     exact St.same hr (by rw[decide_eq_true rfl];exact .bool _) he
    .refine(E9 b' e k hek w p2).mono λev w' ⟨he,hw⟩=>?_
     rw[hw]
     exact St.same hr (by rw[decide_eq_false hek];exact .bool _) he
  .cases hc
 .cases hc
theorem AJ {σ:aH}{w w1:World}{h:AH}{t t':Nat}{u x x':Value}{e:TypeId}(hr:HR Tryz.prog σ h w) (hσ:σ t=some t') (hg:h.get t=some (.cells [u] e false)) (hx:eN w w1) (hd:w.drawn<=w1.drawn) (hv:VR σ x x') (h1:x.oneCell' = true) (hs:bM h ⟨t,0,none⟩ [x]=some (h.put t (.cells [x] e false))) :
  St Tryz.prog σ h w σ (h.put t (.cells [x] e false)) (w1.setCell ⟨t',0,none⟩ x'):=by
 have s1:=St.grown hr ⟨hx,hd⟩
 have s2:=(cG s1.hr hσ (vs:=[x]) (vs':=[x']) ⟨rfl,λi v v' a b=>by
  match i with
  | 0=>cases a;cases b;exact hv
  | i+1=>cases a⟩ hs).2
 exact s1.trans s2
theorem Iy {σ:aH}{w:World}{h h':AH}{args:List Value}{v:Value}(hc:Ho h args=some (v,h')){args':Array Value}(hr:HR Tryz.prog σ h w) (ha:br σ args args'.toList) :
  Calls Tryz.prog 35 args' w (λe w'=>∃v' σ',e = .returned v'/\St Tryz.prog σ h w σ' h' w'/\VR σ' v v'):=by
 obtain⟨l'⟩:=args'
 obtain⟨hlen,hval⟩:=ha
 unfold Ho at hc
 split at hc
 .rename_i b t
  split at hc
  .rename_i u e0 hg
   obtain⟨rfl,rfl⟩:=Prod.mk.inj (Option.some.inj hc)
   match l',hlen with
   | [v0,v1],_=>
    obtain⟨u0,rfl,q0⟩:=cP (hval 0 _ v0 rfl rfl)
    obtain⟨u1,rfl,q1⟩:=cP (hval 1 _ v1 rfl rfl)
    obtain⟨b',rfl,hσ⟩:=mF q0
    obtain⟨t',rfl,hσ2⟩:=mF q1
    obtain⟨u2,p2,q2,f2⟩:=pE (j:=0) hr hσ2 hg rfl
    refine(CO _ _ u2 w hr.inv.1 p2 (f2 rfl)).mono λev w' ⟨he,w1,hx,hd,hw⟩=>?_
    rw[hw]
    exact⟨_,σ,he,AJ hr hσ2 hg hx hd q0 rfl (by unfold bM;simp only[hg];rfl),.bool _⟩
  .cases hc
 .rename_i x t
  split at hc
  .rename_i u e0 f0 hg
   obtain⟨rfl,rfl⟩:=Prod.mk.inj (Option.some.inj hc)
   match l',hlen with
   | [v0,v1],_=>
    obtain⟨u0,rfl,q0⟩:=cP (hval 0 _ v0 rfl rfl)
    obtain⟨u1,rfl,q1⟩:=cP (hval 1 _ v1 rfl rfl)
    obtain rfl:=eZ q0
    obtain⟨t',rfl,hσ2⟩:=mF q1
    obtain⟨u2,p2,q2,f2⟩:=pE (j:=0) hr hσ2 hg rfl
    refine(Fd _ _ u2 w hr.inv.1 p2).mono λev w' ⟨he,hx,hd⟩=>?_
    exact⟨_,σ,he,St.grown hr ⟨hx,hd⟩,.bool _⟩
  .cases hc
 .rename_i x t
  split at hc
  .rename_i u e0 hg
   obtain⟨rfl,rfl⟩:=Prod.mk.inj (Option.some.inj hc)
   match l',hlen with
   | [v0,v1],_=>
    obtain⟨u0,rfl,q0⟩:=cP (hval 0 _ v0 rfl rfl)
    obtain⟨u1,rfl,q1⟩:=cP (hval 1 _ v1 rfl rfl)
    obtain rfl:=eZ q0
    obtain⟨t',rfl,hσ2⟩:=mF q1
    obtain⟨u2,p2,q2,f2⟩:=pE (j:=0) hr hσ2 hg rfl
    refine(CQ _ _ u2 w hr.inv.1 p2 (f2 rfl)).mono λev w' ⟨he,w1,hx,hd,hw⟩=>?_
    rw[hw]
    exact⟨_,σ,he,AJ hr hσ2 hg hx hd q0 rfl (by unfold bM;simp only[hg];rfl),.bool _⟩
  .cases hc
 .cases hc
theorem Iz:dI Tryz.prog orc:=by
 intro g args h v h' hc σ w args' hr ha
 unfold orc at hc
 cases h1:Nat.beq g 308 with
 | true=>
  rw[h1]at hc
  obtain rfl:=Nat.eq_of_beq_eq_true h1
  exact ET hc hr ha
 | false=>
  rw[h1]at hc
  simp only[cond_false]at hc
  cases h2:Nat.beq g 4 with
  | false=>
   rw[h2]at hc
   simp only[cond_false]at hc
   cases h3:Nat.beq g 138 with
   | true=>
    rw[h3]at hc
    obtain rfl:=Nat.eq_of_beq_eq_true h3
    exact xM hc hr ha
   | false=>
   rw[h3]at hc
   simp only[cond_false]at hc
   cases h4:Nat.beq g 34 with
   | true=>
    rw[h4]at hc
    obtain rfl:=Nat.eq_of_beq_eq_true h4
    exact Ix hc hr ha
   | false=>
   rw[h4]at hc
   simp only[cond_false]at hc
   cases h5:Nat.beq g 35 with
   | true=>
    rw[h5]at hc
    obtain rfl:=Nat.eq_of_beq_eq_true h5
    exact Iy hc hr ha
   | false=>rw[h5]at hc;cases hc
  | true=>
   rw[h2]at hc
   obtain rfl:=Nat.eq_of_beq_eq_true h2
   simp only[cond_true]at hc
   unfold Dl at hc
   split at hc
   .obtain⟨rfl,rfl⟩:=Prod.mk.inj (Option.some.inj hc)
    have ha0:args' = #[]:=by
     obtain⟨l⟩:=args'
     have:=ha.1
     match l,this with
     | [],_=>rfl
    subst ha0
    exact(Fh w hr.inv.1).mono λe w' ⟨he,hb⟩=>⟨.bool true,σ,he,St.grown hr hb,.bool true⟩
   .cases hc
end Eva
end Go.Proofs.YtaagdjkinbemcaaGreatDoor
