/-
Lemmas for TopEntries. No condition.
-/
import Derived.Test.YtaomlhopkfmheaaGreatDoorKn
import Derived.Test.YtaomlhopkfmheaaGreatDoorPb
import Derived.Shelf.Sort.Plain
namespace Go.Proofs
def Tryz.laysSort_ren : Go.Shelf.Ren := ⟨fun | 189 => 323 | 125 => 181 | 257 => 340 | 128 => 239 | 129 => 240 | 294 => 348 | 295 => 349 | 296 => 350 | 297 => 351 | 298 => 352 | 299 => 353 | 216 => 84 | 300 => 354 | 301 => 355 | 328 => 360 | 329 => 294 | 330 => 295 | 331 => 361 | 332 => 362 | 215 => 155 | 343 => 369 | n => n, fun | 28 => 31 | 3 => 3 | 46 => 187 | 0 => 0 | 51 => 381 | 53 => 235 | 4 => 4 | 183 => 375 | 182 => 374 | 131 => 108 | 5 => 5 | 9 => 9 | 218 => 426 | 222 => 430 | 228 => 452 | 229 => 190 | n => n, fun | n => n⟩
theorem Tryz.laysSort : Go.Proofs.Lays.n189 Tryz.prog Tryz.laysSort_ren := {
  mixed := by kernel_rfl
  f125 := Tryz.func181.trans (congrArg some (by kernel_rfl))
  f128 := Tryz.func239.trans (congrArg some (by kernel_rfl))
  f129 := Tryz.func240.trans (congrArg some (by kernel_rfl))
  f189 := Tryz.func323.trans (congrArg some (by kernel_rfl))
  f215 := Tryz.func155.trans (congrArg some (by kernel_rfl))
  f216 := Tryz.func84.trans (congrArg some (by kernel_rfl))
  f257 := Tryz.func340.trans (congrArg some (by kernel_rfl))
  f294 := Tryz.func348.trans (congrArg some (by kernel_rfl))
  f295 := Tryz.func349.trans (congrArg some (by kernel_rfl))
  f296 := Tryz.func350.trans (congrArg some (by kernel_rfl))
  f297 := Tryz.func351.trans (congrArg some (by kernel_rfl))
  f298 := Tryz.func352.trans (congrArg some (by kernel_rfl))
  f299 := Tryz.func353.trans (congrArg some (by kernel_rfl))
  f300 := Tryz.func354.trans (congrArg some (by kernel_rfl))
  f301 := Tryz.func355.trans (congrArg some (by kernel_rfl))
  f328 := Tryz.func360.trans (congrArg some (by kernel_rfl))
  f329 := Tryz.func294.trans (congrArg some (by kernel_rfl))
  f330 := Tryz.func295.trans (congrArg some (by kernel_rfl))
  f331 := Tryz.func361.trans (congrArg some (by kernel_rfl))
  f332 := Tryz.func362.trans (congrArg some (by kernel_rfl))
  f343 := Tryz.func369.trans (congrArg some (by kernel_rfl))
  t0 := Tryz.underlying0
  a0 := Tryz.isAgg0
  z0 := Tryz.sizeOf0
  v0 := Tryz.zeroValue0
  t3 := Tryz.underlying3
  a3 := Tryz.isAgg3
  z3 := Tryz.sizeOf3
  v3 := Tryz.zeroValue3
  t4 := Tryz.underlying4
  a4 := Tryz.isAgg4
  z4 := Tryz.sizeOf4
  v4 := Tryz.zeroValue4
  t5 := Tryz.underlying5
  a5 := Tryz.isAgg5
  z5 := Tryz.sizeOf5
  v5 := Tryz.zeroValue5
  t9 := Tryz.underlying9
  a9 := Tryz.isAgg9
  z9 := Tryz.sizeOf9
  v9 := Tryz.zeroValue9
  t28 := Tryz.underlying31
  a28 := Tryz.isAgg31
  z28 := Tryz.sizeOf31
  v28 := Tryz.zeroValue31
  t46 := Tryz.underlying187
  a46 := Tryz.isAgg187
  z46 := Tryz.sizeOf187
  v46 := Tryz.zeroValue187
  t51 := Tryz.underlying381
  a51 := Tryz.isAgg381
  z51 := Tryz.sizeOf381
  v51 := Tryz.zeroValue381
  t53 := Tryz.underlying235
  a53 := Tryz.isAgg235
  z53 := Tryz.sizeOf235
  v53 := Tryz.zeroValue235
  t131 := Tryz.underlying108
  a131 := Tryz.isAgg108
  z131 := Tryz.sizeOf108
  v131 := Tryz.zeroValue108
  t182 := Tryz.underlying374
  a182 := Tryz.isAgg374
  z182 := Tryz.sizeOf374
  v182 := Tryz.zeroValue374
  t183 := Tryz.underlying375
  a183 := Tryz.isAgg375
  z183 := Tryz.sizeOf375
  v183 := Tryz.zeroValue375
  t218 := Tryz.underlying426
  a218 := Tryz.isAgg426
  z218 := Tryz.sizeOf426
  v218 := Tryz.zeroValue426
  t222 := Tryz.underlying430
  a222 := Tryz.isAgg430
  z222 := Tryz.sizeOf430
  v222 := Tryz.zeroValue430
  t228 := Tryz.underlying452
  a228 := Tryz.isAgg452
  z228 := Tryz.sizeOf452
  v228 := Tryz.zeroValue452
  t229 := Tryz.underlying190
  a229 := Tryz.isAgg190
  z229 := Tryz.sizeOf190
  v229 := Tryz.zeroValue190 }
end Go.Proofs
namespace Go.Proofs.YtaomlhopkfmheaaGreatDoor
set_option linter.unusedVariables false
set_option linter.unusedSimpArgs false
set_option linter.unusedSectionVars false
set_option linter.unnecessarySimpa false
open Go Go.RowKit Go.Shelf Go.Sort
theorem xR (blk off cap:Nat) (zs:List Int) (w:World) (hH:Holds (Value.int .i64) w blk off zs.toArray) (hblk:blk<w.heap.size) (hsz:zs.length<4611686018427387904) :
  Calls Tryz.prog 323 #[.slice (some ⟨blk,off,none⟩) zs.length cap] w λe w'=>
   e = .returned (.tuple #[])/\∃n os,w' = grow (putRow (Value.int .i64) (Sort.ahead w n) blk off (zs.mergeSort λx y=>decide (x<=y)).toArray) os:=
 Any.slices_Sort_int Tryz.laysSort blk off cap zs w hH hblk hsz
namespace Eva
theorem St.grown {P:Program}{σ:Ren}{h:AH}{w w':World}(hr:HR P σ h w) (hb:Below w.heap.size w w'):St P σ h w σ h w':=by
 have hl:∀b,b<w.heap.size->w'.heap[b]? = w.heap[b]?:=λb h=>hb.block b h
 exact⟨Ren.le_refl σ,⟨λn b h=>⟨(hr.lt n b h).1,Nat.lt_of_lt_of_le (hr.lt n b h).2 hb.size⟩,λn b o h1 h2=>by
  obtain⟨o',q1,q2⟩:=hr.obj n b o h1 h2
  exact⟨o',(hl b (hr.lt n b h1).2).trans q1,q2⟩,hr.inj,hr.none⟩,hb.os,hb.tape,hb.output,hb.size,Nat.le_refl _,(λn b h1 h2=>by rw[h2]at h1;cases h1),λ_ _ _=>rfl,λb hb' _=>hl b hb',λn b c e h1 h2=>⟨h2,hl b (hr.lt n b h1).2⟩⟩
theorem io:∀{l:List Value}{zs:List Int},gW l=some zs->l=zs.map (Value.int .i64)
 | [],zs,h=>by
  obtain rfl:=Option.some.inj h
  rfl
 | v :: l,zs,h=>by
  unfold gW at h
  split at h
  ·rename_i h1;cases h1
  ·rename_i x l' h1
   injection h1 with h2 h3
   subst h2 h3
   cases hq:gW l with
   | none=>rw[hq]at h;cases h
   | some ys=>
    rw[hq]at h
    obtain rfl:=Option.some.inj h
    rw[io hq];rfl
  ·cases h
theorem xS {σ:Ren}{u v':Value}(h:VR σ u v'):∀{b o n K:Nat},u = .slice (some ⟨b,o,none⟩) n K->∃b' c',v' = .slice (some ⟨b',o,none⟩) n c'/\σ b=some b'/\CR K c':=by
 intro b o n K hu
 cases h with
 | sl h1 h2 h3=>
  injection hu with e1 e2 e3
  injection e1 with e1
  injection e1 with e4 e5
  subst e2 e3 e4 e5
  exact⟨_,_,rfl,h1,h2⟩
 | far=>
  unfold dS at hu
  injection hu with e1
  injection e1 with e1
  injection e1 with e2 e3 e4
  cases e4
 | any v hn=>unfold oF at hu;cases hu
 | _=>cases hu
theorem As {σ:Ren}{w:World}{h h':AH}{args:List Value}{v:Value}(hc:vB h args=some (v,h')){args':Array Value}(hr:HR Tryz.prog σ h w) (ha:VRs σ args args'.toList) :
  Calls Tryz.prog 323 args' w (λe w'=>∃v' σ',e = .returned v'/\St Tryz.prog σ h w σ' h' w'/\VR σ' v v'):=by
 unfold vB at hc
 split at hc
 ·rename_i b o n K
  split at hc
  ·rename_i c e0 hg
   cases hz:gW ((c.drop o).take n) with
   | none=>rw[hz]at hc;cases hc
   | some zs=>
    rw[hz]at hc
    unfold uj at hc
    simp only at hc
    cases hb:(Nat.ble (o+n) c.length && Nat.ble n (K / 2) && Nat.ble n 1000000) with
    | false=>rw[hb]at hc;cases hc
    | true=>
     rw[hb]at hc
     simp only[cond_true]at hc
     obtain⟨rfl,rfl⟩:=Prod.mk.inj (Option.some.inj hc)
     rw[Bool.and_eq_true,Bool.and_eq_true]at hb
     have hl1:=Nat.le_of_ble_eq_true hb.1.1
     have hl2:=Nat.le_of_ble_eq_true hb.1.2
     have hl3:=Nat.le_of_ble_eq_true hb.2
     have hzl:zs.length=n:=by
      have h1:=congrArg List.length (io hz)
      rw[List.length_take,List.length_drop,List.length_map]at h1
      omega
     obtain⟨l'⟩:=args'
     obtain⟨hlen,hval⟩:=ha
     match l',hlen with
     | [v0],_=>
      have hv:=hval 0 _ v0 rfl rfl
      obtain⟨b',c',rfl,hσ,hCR⟩:=xS hv rfl
      obtain⟨o',hob,hor⟩:=hr.obj b b' _ hσ hg
      have hblt:=(hr.lt b b' hσ).2
      cases hor with
      | @cells _ cc _ _ f' hcell hfree hcap=>
       have hat:∀(j:Nat) (x:Int),zs[j]? = some x->cc[o+j]? = some (.int .i64 x):=λj x hx=>by
        have h1:((c.drop o).take n)[j]? = some (.int .i64 x):=by rw[io hz,List.getElem?_map,hx];rfl
        have hj:=(List.getElem?_eq_some_iff.1 hx).1
        rw[List.getElem?_take,if_pos (by omega),List.getElem?_drop]at h1
        obtain⟨u',q1,q2⟩:=hcell _ _ h1
        cases q2 with
        | int=>exact q1
       have hH:Holds (Value.int .i64) w b' o zs.toArray:=λj hj=>by
        have hj':j<zs.length:=by simpa using hj
        have hx:=hat j (zs[j]'hj') (List.getElem?_eq_getElem _)
        have hlt:=(Array.getElem?_eq_some_iff.1 hx).1
        refine⟨?_,mK hob (hfree rfl) _ hlt⟩
        unfold World.cell?
        simp only[hob]
        rw[hx]
        simp[hj']
       have hcl:c.length<=cc.size:=by
        rcases Nat.lt_or_ge cc.size c.length with h1 | h1
        ·obtain⟨u',q1,-⟩:=hcell cc.size _ (List.getElem?_eq_getElem h1)
         simp at q1
        ·exact h1
       have hso:=xR b' o c' zs w hH hblt (by omega)
       rw[hzl]at hso
       refine hso.mono λe w' ⟨he,m,os,hw⟩=>?_
       obtain⟨ys,hys⟩:∃ys,(zs.mergeSort λx y=>decide (x<=y))=ys:=⟨_,rfl⟩
       rw[hys]at hw⊢
       have hyl:ys.length=n:=by rw[<-hys,List.length_mergeSort];exact hzl
       obtain⟨w1,hw1⟩:∃w1,putRow (Value.int .i64) (Sort.ahead w m) b' o ys.toArray=w1:=⟨_,rfl⟩
       have hsame:ue b' w w1:=by
        subst hw1
        refine⟨rfl,rfl,rfl,by rw[size_putRow];rfl,λx hx=>?_⟩
        unfold putRow mapBlock
        have hne:b'≠x:=λe=>hx e.symm
        simp[Array.getElem?_modify,hne]
       have hblk:w1.heap[b']? = some (.cells (putCells (Value.int .i64) o ys.toArray cc) e0 f'):=by
        subst hw1
        unfold putRow mapBlock
        have:(Sort.ahead w m).heap[b']? = some (.cells cc e0 f'):=hob
        simp only[Array.getElem?_modify,if_true,this]
        rfl
       have hor1:OR Tryz.prog σ b' (.cells (c.take o ++ ys.map (Value.int .i64) ++ c.drop (o+n)) e0 false) (.cells (putCells (Value.int .i64) o ys.toArray cc) e0 f'):=by
        have hps:(putCells (Value.int .i64) o ys.toArray cc).size=cc.size:=by unfold putCells;simp
        refine .cells (λi v hi=>?_) (λh=>by rw[hps];exact hfree h) (λi hi=>by rw[hps];exact hcap i hi)
        have hil:=(List.getElem?_eq_some_iff.1 hi).1
        rw[List.length_append,List.length_append,List.length_take,List.length_drop,List.length_map]at hil
        have hic:i<cc.size:=by omega
        have hpi:(putCells (Value.int .i64) o ys.toArray cc)[i]? = some (if o<=i/\i<o+ys.toArray.size then Value.int .i64 ys.toArray[i - o]! else cc[i]):=by
         unfold putCells
         rw[Array.getElem?_mapIdx,Array.getElem?_eq_getElem hic]
         rfl
        by_cases h1:i<o
        ·rw[List.getElem?_append_left (by rw[List.length_append,List.length_take,List.length_map];omega),List.getElem?_append_left (by rw[List.length_take];omega),List.getElem?_take,if_pos h1]at hi
         obtain⟨u',q1,q2⟩:=hcell i v hi
         refine⟨u',?_,q2⟩
         rw[hpi,if_neg (by omega),<-Array.getElem?_eq_getElem hic]
         exact q1
        ·by_cases h2:i<o+n
         ·rw[List.getElem?_append_left (by rw[List.length_append,List.length_take,List.length_map];omega),List.getElem?_append_right (by rw[List.length_take];omega),List.length_take,List.getElem?_map]at hi
          have hio:i - min o c.length=i - o:=by omega
          rw[hio,List.getElem?_eq_getElem (by omega)]at hi
          obtain rfl:=Option.some.inj hi
          refine⟨_,?_,.int _ _⟩
          rw[hpi,if_pos ⟨by omega,by simp;omega⟩]
          have hlt:i - o<ys.length:=by omega
          simp[hlt]
         ·rw[List.getElem?_append_right (by rw[List.length_append,List.length_take,List.length_map];omega),List.length_append,List.length_take,List.length_map,List.getElem?_drop]at hi
          have hio:o+n+(i - (min o c.length+ys.length))=i:=by omega
          rw[hio]at hi
          obtain⟨u',q1,q2⟩:=hcell i v hi
          refine⟨u',?_,q2⟩
          rw[hpi,if_neg (by simp;omega),<-Array.getElem?_eq_getElem hic]
          exact q1
       rw[hw1]at hw
       have st1:St Tryz.prog σ h w σ (h.put b (.cells (c.take o ++ ys.map (Value.int .i64) ++ c.drop (o+n)) e0 false)) w1:=St.upd hr hσ hg (λc e h=>by cases h) hsame hblk hor1
       have st2:=St.grown (w':=w') st1.hr (by
        subst hw
        exact⟨rfl,rfl,rfl,by simp[grow],λk hk=>by simp[grow,Array.getElem?_append,hk]⟩)
       exact⟨.tuple #[],σ,he,st1.trans st2,.tuple rfl λi v v' h=>by simp at h⟩
  ·cases hc
 ·cases hc
theorem Ds:dm Tryz.prog orc:=by
 intro g args h v h' hc σ w args' hr ha
 unfold orc at hc
 cases h1:Nat.beq g 323 with
 | true=>
  rw[h1]at hc
  obtain rfl:=Nat.eq_of_beq_eq_true h1
  exact As hc hr ha
 | false=>
  rw[h1]at hc
  simp only[cond_false]at hc
  cases h2:Nat.beq g 4 with
  | false=>rw[h2]at hc;cases hc
  | true=>
   rw[h2]at hc
   obtain rfl:=Nat.eq_of_beq_eq_true h2
   simp only[cond_true]at hc
   unfold yB at hc
   split at hc
   ·obtain⟨rfl,rfl⟩:=Prod.mk.inj (Option.some.inj hc)
    have ha0:args' = #[]:=by
     obtain⟨l⟩:=args'
     have:=ha.1
     match l,this with
     | [],_=>rfl
    subst ha0
    exact(Az w).mono λe w' ⟨he,hb⟩=>⟨.bool true,σ,he,St.grown hr hb,.bool true⟩
   ·cases hc
end Eva
end Go.Proofs.YtaomlhopkfmheaaGreatDoor
