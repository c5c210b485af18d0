/-
Lemmas for TopHops. No condition.
-/
import Derived.Test.YtmbadhdpcdbdbaaGreatDoorKn
import Derived.Test.YtmbadhdpcdbdbaaGreatDoorPb
import Derived.Shelf.Sort.Plain
namespace Go.Proofs
def Tryz.laysSort_ren : Go.Shelf.Ren := ⟨fun | 189 => 325 | 125 => 182 | 257 => 342 | 128 => 241 | 129 => 242 | 294 => 350 | 295 => 351 | 296 => 352 | 297 => 353 | 298 => 354 | 299 => 355 | 216 => 165 | 300 => 356 | 301 => 357 | 328 => 362 | 329 => 296 | 330 => 297 | 331 => 363 | 332 => 364 | 215 => 183 | 343 => 371 | n => n, fun | 28 => 48 | 3 => 3 | 46 => 293 | 0 => 0 | 51 => 384 | 53 => 236 | 4 => 4 | 183 => 378 | 182 => 377 | 131 => 199 | 5 => 5 | 9 => 9 | 218 => 429 | 222 => 433 | 228 => 455 | 229 => 195 | n => n, fun | n => n⟩
theorem Tryz.laysSort : Go.Proofs.Lays.n189 Tryz.prog Tryz.laysSort_ren := {
  mixed := by kernel_rfl
  f125 := Tryz.func182.trans (congrArg some (by kernel_rfl))
  f128 := Tryz.func241.trans (congrArg some (by kernel_rfl))
  f129 := Tryz.func242.trans (congrArg some (by kernel_rfl))
  f189 := Tryz.func325.trans (congrArg some (by kernel_rfl))
  f215 := Tryz.func183.trans (congrArg some (by kernel_rfl))
  f216 := Tryz.func165.trans (congrArg some (by kernel_rfl))
  f257 := Tryz.func342.trans (congrArg some (by kernel_rfl))
  f294 := Tryz.func350.trans (congrArg some (by kernel_rfl))
  f295 := Tryz.func351.trans (congrArg some (by kernel_rfl))
  f296 := Tryz.func352.trans (congrArg some (by kernel_rfl))
  f297 := Tryz.func353.trans (congrArg some (by kernel_rfl))
  f298 := Tryz.func354.trans (congrArg some (by kernel_rfl))
  f299 := Tryz.func355.trans (congrArg some (by kernel_rfl))
  f300 := Tryz.func356.trans (congrArg some (by kernel_rfl))
  f301 := Tryz.func357.trans (congrArg some (by kernel_rfl))
  f328 := Tryz.func362.trans (congrArg some (by kernel_rfl))
  f329 := Tryz.func296.trans (congrArg some (by kernel_rfl))
  f330 := Tryz.func297.trans (congrArg some (by kernel_rfl))
  f331 := Tryz.func363.trans (congrArg some (by kernel_rfl))
  f332 := Tryz.func364.trans (congrArg some (by kernel_rfl))
  f343 := Tryz.func371.trans (congrArg some (by kernel_rfl))
  t0 := Tryz.underlying0
  a0 := Tryz.isAgg0
  z0 := Tryz.sizeOf0
  v0 := Tryz.zeroValue0
  t3 := Tryz.underlying3
  a3 := Tryz.isAgg3
  z3 := Tryz.sizeOf3
  v3 := Tryz.zeroValue3
  t4 := Tryz.underlying4
  a4 := Tryz.isAgg4
  z4 := Tryz.sizeOf4
  v4 := Tryz.zeroValue4
  t5 := Tryz.underlying5
  a5 := Tryz.isAgg5
  z5 := Tryz.sizeOf5
  v5 := Tryz.zeroValue5
  t9 := Tryz.underlying9
  a9 := Tryz.isAgg9
  z9 := Tryz.sizeOf9
  v9 := Tryz.zeroValue9
  t28 := Tryz.underlying48
  a28 := Tryz.isAgg48
  z28 := Tryz.sizeOf48
  v28 := Tryz.zeroValue48
  t46 := Tryz.underlying293
  a46 := Tryz.isAgg293
  z46 := Tryz.sizeOf293
  v46 := Tryz.zeroValue293
  t51 := Tryz.underlying384
  a51 := Tryz.isAgg384
  z51 := Tryz.sizeOf384
  v51 := Tryz.zeroValue384
  t53 := Tryz.underlying236
  a53 := Tryz.isAgg236
  z53 := Tryz.sizeOf236
  v53 := Tryz.zeroValue236
  t131 := Tryz.underlying199
  a131 := Tryz.isAgg199
  z131 := Tryz.sizeOf199
  v131 := Tryz.zeroValue199
  t182 := Tryz.underlying377
  a182 := Tryz.isAgg377
  z182 := Tryz.sizeOf377
  v182 := Tryz.zeroValue377
  t183 := Tryz.underlying378
  a183 := Tryz.isAgg378
  z183 := Tryz.sizeOf378
  v183 := Tryz.zeroValue378
  t218 := Tryz.underlying429
  a218 := Tryz.isAgg429
  z218 := Tryz.sizeOf429
  v218 := Tryz.zeroValue429
  t222 := Tryz.underlying433
  a222 := Tryz.isAgg433
  z222 := Tryz.sizeOf433
  v222 := Tryz.zeroValue433
  t228 := Tryz.underlying455
  a228 := Tryz.isAgg455
  z228 := Tryz.sizeOf455
  v228 := Tryz.zeroValue455
  t229 := Tryz.underlying195
  a229 := Tryz.isAgg195
  z229 := Tryz.sizeOf195
  v229 := Tryz.zeroValue195 }
end Go.Proofs
namespace Go.Proofs.YtmbadhdpcdbdbaaGreatDoor
set_option linter.unusedVariables false
set_option linter.unusedSimpArgs false
set_option linter.unusedSectionVars false
set_option linter.unnecessarySimpa false
open Go Go.RowKit Go.Shelf Go.Sort
theorem zK (blk off cap:Nat) (zs:List Int) (w:World) (hH:Holds (Value.int .i64) w blk off zs.toArray) (hblk:blk<w.heap.size) (hsz:zs.length<4611686018427387904) :
  Calls Tryz.prog 325 #[.slice (some ⟨blk,off,none⟩) zs.length cap] w λe w'=>
   e = .returned (.tuple #[])/\∃n os,w' = grow (putRow (Value.int .i64) (Sort.ahead w n) blk off (zs.mergeSort λx y=>decide (x<=y)).toArray) os:=
 Any.slices_Sort_int Tryz.laysSort blk off cap zs w hH hblk hsz
namespace Eva
theorem St.grown {P:Program}{σ:aM}{h:AH}{w w':World}(hr:HR P σ h w) (hb:Below w.heap.size w w'):St P σ h w σ h w':=by
 have hl:∀b,b<w.heap.size->w'.heap[b]? = w.heap[b]?:=λb h=>hb.block b h
 exact⟨aM.le_refl σ,⟨λn b h=>⟨(hr.lt n b h).1,Nat.lt_of_lt_of_le (hr.lt n b h).2 hb.size⟩,λn b o h1 h2=>by
  obtain⟨o',q1,q2⟩:=hr.obj n b o h1 h2
  exact⟨o',(hl b (hr.lt n b h1).2).trans q1,q2⟩,hr.inj,hr.none⟩,hb.os,hb.tape,hb.output,hb.size,Nat.le_refl _,(λn b h1 h2=>by rw[h2]at h1;cases h1),λ_ _ _=>rfl,λb hb' _=>hl b hb',λn b c e h1 h2=>⟨h2,hl b (hr.lt n b h1).2⟩⟩
theorem iQ:∀{l:List Value}{zs:List Int},iD l=some zs->l=zs.map (Value.int .i64)
 | [],zs,h=>by
  obtain rfl:=Option.some.inj h
  rfl
 | v :: l,zs,h=>by
  unfold iD at h
  split at h
  .rename_i h1;cases h1
  .rename_i x l' h1
   injection h1 with h2 h3
   subst h2 h3
   cases hq:iD l with
   | none=>rw[hq]at h;cases h
   | some ys=>
    rw[hq]at h
    obtain rfl:=Option.some.inj h
    rw[iQ hq];rfl
  .cases h
theorem zL {σ:aM}{u v':Value}(h:VR σ u v'):∀{b o n K:Nat},u = .slice (some ⟨b,o,none⟩) n K->∃b' c',v' = .slice (some ⟨b',o,none⟩) n c'/\σ b=some b'/\CR K c':=by
 intro b o n K hu
 cases h with
 | sl h1 h2 h3=>
  injection hu with e1 e2 e3
  injection e1 with e1
  injection e1 with e4 e5
  subst e2 e3 e4 e5
  exact⟨_,_,rfl,h1,h2⟩
 | far=>
  unfold eG at hu
  injection hu with e1
  injection e1 with e1
  injection e1 with e2 e3 e4
  cases e4
 | any v hn=>unfold pQ at hu;cases hu
 | _=>cases hu
theorem CN {σ:aM}{w:World}{h h':AH}{args:List Value}{v:Value}(hc:xw h args=some (v,h')){args':Array Value}(hr:HR Tryz.prog σ h w) (ha:bz σ args args'.toList) :
  Calls Tryz.prog 325 args' w (λe w'=>∃v' σ',e = .returned v'/\St Tryz.prog σ h w σ' h' w'/\VR σ' v v'):=by
 unfold xw at hc
 split at hc
 .rename_i b o n K
  split at hc
  .rename_i c e0 hg
   cases hz:iD ((c.drop o).take n) with
   | none=>rw[hz]at hc;cases hc
   | some zs=>
    rw[hz]at hc
    unfold vP at hc
    simp only at hc
    cases hb:(Nat.ble (o+n) c.length && Nat.ble n (K / 2) && Nat.ble n 1000000) with
    | false=>rw[hb]at hc;cases hc
    | true=>
     rw[hb]at hc
     simp only[cond_true]at hc
     obtain⟨rfl,rfl⟩:=Prod.mk.inj (Option.some.inj hc)
     rw[Bool.and_eq_true,Bool.and_eq_true]at hb
     have hl1:=Nat.le_of_ble_eq_true hb.1.1
     have hl2:=Nat.le_of_ble_eq_true hb.1.2
     have hl3:=Nat.le_of_ble_eq_true hb.2
     have hzl:zs.length=n:=by
      have h1:=congrArg List.length (iQ hz)
      rw[List.length_take,List.length_drop,List.length_map]at h1
      omega
     obtain⟨l'⟩:=args'
     obtain⟨hlen,hval⟩:=ha
     match l',hlen with
     | [v0],_=>
      have hv:=hval 0 _ v0 rfl rfl
      obtain⟨b',c',rfl,hσ,hCR⟩:=zL hv rfl
      obtain⟨o',hob,hor⟩:=hr.obj b b' _ hσ hg
      have hblt:=(hr.lt b b' hσ).2
      cases hor with
      | @cells _ cc _ _ f' hcell hfree hcap=>
       have hat:∀(j:Nat) (x:Int),zs[j]? = some x->cc[o+j]? = some (.int .i64 x):=λj x hx=>by
        have h1:((c.drop o).take n)[j]? = some (.int .i64 x):=by rw[iQ hz,List.getElem?_map,hx];rfl
        have hj:=(List.getElem?_eq_some_iff.1 hx).1
        rw[List.getElem?_take,if_pos (by omega),List.getElem?_drop]at h1
        obtain⟨u',q1,q2⟩:=hcell _ _ h1
        cases q2 with
        | int=>exact q1
       have hH:Holds (Value.int .i64) w b' o zs.toArray:=λj hj=>by
        have hj':j<zs.length:=by simpa using hj
        have hx:=hat j (zs[j]'hj') (List.getElem?_eq_getElem _)
        have hlt:=(Array.getElem?_eq_some_iff.1 hx).1
        refine⟨?_,ou hob (hfree rfl) _ hlt⟩
        unfold World.cell?
        simp only[hob]
        rw[hx]
        simp[hj']
       have hcl:c.length<=cc.size:=by
        rcases Nat.lt_or_ge cc.size c.length with h1 | h1
        .obtain⟨u',q1,-⟩:=hcell cc.size _ (List.getElem?_eq_getElem h1)
         simp at q1
        .exact h1
       have hso:=zK b' o c' zs w hH hblt (by omega)
       rw[hzl]at hso
       refine hso.mono λe w' ⟨he,m,os,hw⟩=>?_
       obtain⟨ys,hys⟩:∃ys,(zs.mergeSort λx y=>decide (x<=y))=ys:=⟨_,rfl⟩
       rw[hys]at hw⊢
       have hyl:ys.length=n:=by rw[<-hys,List.length_mergeSort];exact hzl
       obtain⟨w1,hw1⟩:∃w1,putRow (Value.int .i64) (Sort.ahead w m) b' o ys.toArray=w1:=⟨_,rfl⟩
       have hsame:vL b' w w1:=by
        subst hw1
        refine⟨rfl,rfl,rfl,by rw[size_putRow];rfl,λx hx=>?_⟩
        unfold putRow mapBlock
        have hne:b'≠x:=λe=>hx e.symm
        simp[Array.getElem?_modify,hne]
       have hblk:w1.heap[b']? = some (.cells (putCells (Value.int .i64) o ys.toArray cc) e0 f'):=by
        subst hw1
        unfold putRow mapBlock
        have:(Sort.ahead w m).heap[b']? = some (.cells cc e0 f'):=hob
        simp only[Array.getElem?_modify,if_true,this]
        rfl
       have hor1:OR Tryz.prog σ b' (.cells (c.take o ++ ys.map (Value.int .i64) ++ c.drop (o+n)) e0 false) (.cells (putCells (Value.int .i64) o ys.toArray cc) e0 f'):=by
        have hps:(putCells (Value.int .i64) o ys.toArray cc).size=cc.size:=by unfold putCells;simp
        refine .cells (λi v hi=>?_) (λh=>by rw[hps];exact hfree h) (λi hi=>by rw[hps];exact hcap i hi)
        have hil:=(List.getElem?_eq_some_iff.1 hi).1
        rw[List.length_append,List.length_append,List.length_take,List.length_drop,List.length_map]at hil
        have hic:i<cc.size:=by omega
        have hpi:(putCells (Value.int .i64) o ys.toArray cc)[i]? = some (if o<=i/\i<o+ys.toArray.size then Value.int .i64 ys.toArray[i - o]! else cc[i]):=by
         unfold putCells
         rw[Array.getElem?_mapIdx,Array.getElem?_eq_getElem hic]
         rfl
        by_cases h1:i<o
        .rw[List.getElem?_append_left (by rw[List.length_append,List.length_take,List.length_map];omega),List.getElem?_append_left (by rw[List.length_take];omega),List.getElem?_take,if_pos h1]at hi
         obtain⟨u',q1,q2⟩:=hcell i v hi
         refine⟨u',?_,q2⟩
         rw[hpi,if_neg (by omega),<-Array.getElem?_eq_getElem hic]
         exact q1
        .by_cases h2:i<o+n
         .rw[List.getElem?_append_left (by rw[List.length_append,List.length_take,List.length_map];omega),List.getElem?_append_right (by rw[List.length_take];omega),List.length_take,List.getElem?_map]at hi
          have hio:i - min o c.length=i - o:=by omega
          rw[hio,List.getElem?_eq_getElem (by omega)]at hi
          obtain rfl:=Option.some.inj hi
          refine⟨_,?_,.int _ _⟩
          rw[hpi,if_pos ⟨by omega,by simp;omega⟩]
          have hlt:i - o<ys.length:=by omega
          simp[hlt]
         .rw[List.getElem?_append_right (by rw[List.length_append,List.length_take,List.length_map];omega),List.length_append,List.length_take,List.length_map,List.getElem?_drop]at hi
          have hio:o+n+(i - (min o c.length+ys.length))=i:=by omega
          rw[hio]at hi
          obtain⟨u',q1,q2⟩:=hcell i v hi
          refine⟨u',?_,q2⟩
          rw[hpi,if_neg (by simp;omega),<-Array.getElem?_eq_getElem hic]
          exact q1
       rw[hw1]at hw
       have st1:St Tryz.prog σ h w σ (h.put b (.cells (c.take o ++ ys.map (Value.int .i64) ++ c.drop (o+n)) e0 false)) w1:=St.upd hr hσ hg (λc e h=>by cases h) hsame hblk hor1
       have st2:=St.grown (w':=w') st1.hr (by
        subst hw
        exact⟨rfl,rfl,rfl,by simp[grow],λk hk=>by simp[grow,Array.getElem?_append,hk]⟩)
       exact⟨.tuple #[],σ,he,st1.trans st2,.tuple rfl λi v v' h=>by simp at h⟩
  .cases hc
 .cases hc
theorem FX:dL Tryz.prog orc:=by
 intro g args h v h' hc σ w args' hr ha
 unfold orc at hc
 cases h1:Nat.beq g 325 with
 | true=>
  rw[h1]at hc
  obtain rfl:=Nat.eq_of_beq_eq_true h1
  exact CN hc hr ha
 | false=>
  rw[h1]at hc
  simp only[cond_false]at hc
  cases h2:Nat.beq g 4 with
  | false=>rw[h2]at hc;cases hc
  | true=>
   rw[h2]at hc
   obtain rfl:=Nat.eq_of_beq_eq_true h2
   simp only[cond_true]at hc
   unfold AE at hc
   split at hc
   .obtain⟨rfl,rfl⟩:=Prod.mk.inj (Option.some.inj hc)
    have ha0:args' = #[]:=by
     obtain⟨l⟩:=args'
     have:=ha.1
     match l,this with
     | [],_=>rfl
    subst ha0
    exact(C3 w).mono λe w' ⟨he,hb⟩=>⟨.bool true,σ,he,St.grown hr hb,.bool true⟩
   .cases hc
end Eva
end Go.Proofs.YtmbadhdpcdbdbaaGreatDoor
