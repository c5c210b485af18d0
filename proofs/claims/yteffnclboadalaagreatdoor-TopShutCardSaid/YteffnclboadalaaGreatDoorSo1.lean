/-
A part of the proof of TopShut: lemmas that the last text joins. No condition.
-/
import Derived.Test.YteffnclboadalaaGreatDoorKn
import Derived.Test.YteffnclboadalaaGreatDoorPb
import Derived.Shelf.Sort.Plain
namespace Go.Proofs
def Tryz.laysSort_ren : Go.Shelf.Ren := ⟨fun | 189 => 276 | 125 => 179 | 257 => 314 | 128 => 234 | 129 => 235 | 294 => 330 | 295 => 331 | 296 => 332 | 297 => 333 | 298 => 334 | 299 => 335 | 216 => 273 | 300 => 336 | 301 => 337 | 328 => 345 | 329 => 287 | 330 => 288 | 331 => 346 | 332 => 347 | 215 => 180 | 343 => 352 | n => n, fun | 28 => 43 | 3 => 3 | 46 => 310 | 0 => 0 | 51 => 378 | 53 => 240 | 4 => 4 | 183 => 372 | 182 => 371 | 131 => 274 | 5 => 5 | 9 => 9 | 218 => 417 | 222 => 421 | 228 => 443 | 229 => 444 | n => n, fun | n => n⟩
theorem Tryz.laysSort : Go.Proofs.Lays.n189 Tryz.prog Tryz.laysSort_ren := {
  mixed := by kernel_rfl
  f125 := Tryz.func179.trans (congrArg some (by kernel_rfl))
  f128 := Tryz.func234.trans (congrArg some (by kernel_rfl))
  f129 := Tryz.func235.trans (congrArg some (by kernel_rfl))
  f189 := Tryz.func276.trans (congrArg some (by kernel_rfl))
  f215 := Tryz.func180.trans (congrArg some (by kernel_rfl))
  f216 := Tryz.func273.trans (congrArg some (by kernel_rfl))
  f257 := Tryz.func314.trans (congrArg some (by kernel_rfl))
  f294 := Tryz.func330.trans (congrArg some (by kernel_rfl))
  f295 := Tryz.func331.trans (congrArg some (by kernel_rfl))
  f296 := Tryz.func332.trans (congrArg some (by kernel_rfl))
  f297 := Tryz.func333.trans (congrArg some (by kernel_rfl))
  f298 := Tryz.func334.trans (congrArg some (by kernel_rfl))
  f299 := Tryz.func335.trans (congrArg some (by kernel_rfl))
  f300 := Tryz.func336.trans (congrArg some (by kernel_rfl))
  f301 := Tryz.func337.trans (congrArg some (by kernel_rfl))
  f328 := Tryz.func345.trans (congrArg some (by kernel_rfl))
  f329 := Tryz.func287.trans (congrArg some (by kernel_rfl))
  f330 := Tryz.func288.trans (congrArg some (by kernel_rfl))
  f331 := Tryz.func346.trans (congrArg some (by kernel_rfl))
  f332 := Tryz.func347.trans (congrArg some (by kernel_rfl))
  f343 := Tryz.func352.trans (congrArg some (by kernel_rfl))
  t0 := Tryz.underlying0
  a0 := Tryz.isAgg0
  z0 := Tryz.sizeOf0
  v0 := Tryz.zeroValue0
  t3 := Tryz.underlying3
  a3 := Tryz.isAgg3
  z3 := Tryz.sizeOf3
  v3 := Tryz.zeroValue3
  t4 := Tryz.underlying4
  a4 := Tryz.isAgg4
  z4 := Tryz.sizeOf4
  v4 := Tryz.zeroValue4
  t5 := Tryz.underlying5
  a5 := Tryz.isAgg5
  z5 := Tryz.sizeOf5
  v5 := Tryz.zeroValue5
  t9 := Tryz.underlying9
  a9 := Tryz.isAgg9
  z9 := Tryz.sizeOf9
  v9 := Tryz.zeroValue9
  t28 := Tryz.underlying43
  a28 := Tryz.isAgg43
  z28 := Tryz.sizeOf43
  v28 := Tryz.zeroValue43
  t46 := Tryz.underlying310
  a46 := Tryz.isAgg310
  z46 := Tryz.sizeOf310
  v46 := Tryz.zeroValue310
  t51 := Tryz.underlying378
  a51 := Tryz.isAgg378
  z51 := Tryz.sizeOf378
  v51 := Tryz.zeroValue378
  t53 := Tryz.underlying240
  a53 := Tryz.isAgg240
  z53 := Tryz.sizeOf240
  v53 := Tryz.zeroValue240
  t131 := Tryz.underlying274
  a131 := Tryz.isAgg274
  z131 := Tryz.sizeOf274
  v131 := Tryz.zeroValue274
  t182 := Tryz.underlying371
  a182 := Tryz.isAgg371
  z182 := Tryz.sizeOf371
  v182 := Tryz.zeroValue371
  t183 := Tryz.underlying372
  a183 := Tryz.isAgg372
  z183 := Tryz.sizeOf372
  v183 := Tryz.zeroValue372
  t218 := Tryz.underlying417
  a218 := Tryz.isAgg417
  z218 := Tryz.sizeOf417
  v218 := Tryz.zeroValue417
  t222 := Tryz.underlying421
  a222 := Tryz.isAgg421
  z222 := Tryz.sizeOf421
  v222 := Tryz.zeroValue421
  t228 := Tryz.underlying443
  a228 := Tryz.isAgg443
  z228 := Tryz.sizeOf443
  v228 := Tryz.zeroValue443
  t229 := Tryz.underlying444
  a229 := Tryz.isAgg444
  z229 := Tryz.sizeOf444
  v229 := Tryz.zeroValue444 }
end Go.Proofs
namespace Go.Proofs.YteffnclboadalaaGreatDoor
set_option linter.unusedVariables false
set_option linter.unusedSimpArgs false
set_option linter.unusedSectionVars false
set_option linter.unnecessarySimpa false
open Go Go.RowKit Go.Shelf Go.Sort
theorem sortInt_o (blk off cap:Nat) (zs:List Int) (w:World) (hH:Holds (Value.int .i64) w blk off zs.toArray) (hblk:blk<w.heap.size) (hsz:zs.length<4611686018427387904) :
  Calls Tryz.prog 276 #[.slice (some ⟨blk,off,none⟩) zs.length cap] w fun e w'=>
   e = .returned (.tuple #[])∧∃ n os,w' = grow (putRow (Value.int .i64) (Sort.ahead w n) blk off (zs.mergeSort fun x y=>decide (x≤y)).toArray) os:=
 Any.slices_Sort_int Tryz.laysSort blk off cap zs w hH hblk hsz
namespace Eva
theorem St.grown {P:Program} {σ:Ren} {h:AH} {w w':World} (hr:HR P σ h w) (hb:Below w.heap.size w w'):St P σ h w σ h w':=by
 have hl:∀ b,b<w.heap.size→w'.heap[b]? = w.heap[b]?:=fun b h=>hb.block b h
 exact ⟨Ren.le_refl σ,⟨fun n b h=>⟨(hr.lt n b h).1,Nat.lt_of_lt_of_le (hr.lt n b h).2 hb.size⟩,fun n b o h1 h2=>by
  obtain ⟨o',q1,q2⟩:=hr.obj n b o h1 h2
  exact ⟨o',(hl b (hr.lt n b h1).2).trans q1,q2⟩,hr.inj,hr.none⟩,hb.os,hb.tape,hb.output,hb.size,Nat.le_refl _,(fun n b h1 h2=>by rw [h2] at h1; cases h1),fun _ _ _=>rfl,fun b hb' _=>hl b hb',fun n b c e h1 h2=>⟨h2,hl b (hr.lt n b h1).2⟩⟩
theorem intsOf_some:∀ {l:List Value} {zs:List Int},intsOf l=some zs→l=zs.map (Value.int .i64)
 | [],zs,h=>by
  obtain rfl:=Option.some.inj h
  rfl
 | v :: l,zs,h=>by
  unfold intsOf at h
  split at h
  ·rename_i h1; cases h1
  ·rename_i x l' h1
   injection h1 with h2 h3
   subst h2 h3
   cases hq:intsOf l with
   | none=>rw [hq] at h; cases h
   | some ys=>
    rw [hq] at h
    obtain rfl:=Option.some.inj h
    rw [intsOf_some hq]; rfl
  ·cases h
theorem slice_inv {σ:Ren} {u v':Value} (h:VR σ u v'):∀ {b o n K:Nat},u = .slice (some ⟨b,o,none⟩) n K→∃ b' c',v' = .slice (some ⟨b',o,none⟩) n c'∧σ b=some b'∧CR K c':=by
 intro b o n K hu
 cases h with
 | sl h1 h2 h3=>
  injection hu with e1 e2 e3
  injection e1 with e1
  injection e1 with e4 e5
  subst e2 e3 e4 e5
  exact ⟨_,_,rfl,h1,h2⟩
 | far=>
  unfold nowhere at hu
  injection hu with e1
  injection e1 with e1
  injection e1 with e2 e3 e4
  cases e4
 | any v hn=>unfold junk at hu; cases hu
 | _=>cases hu
theorem sortA_ok {σ:Ren} {w:World} {h h':AH} {args:List Value} {v:Value} (hc:sortA h args=some (v,h')) {args':Array Value} (hr:HR Tryz.prog σ h w) (ha:VRs σ args args'.toList) :
  Calls Tryz.prog 276 args' w (fun e w'=>∃ v' σ',e = .returned v'∧St Tryz.prog σ h w σ' h' w'∧VR σ' v v'):=by
 unfold sortA at hc
 split at hc
 ·rename_i b o n K
  split at hc
  ·rename_i c e0 hg
   cases hz:intsOf ((c.drop o).take n) with
   | none=>rw [hz] at hc; cases hc
   | some zs=>
    rw [hz] at hc
    unfold sortAt at hc
    simp only at hc
    cases hb:(Nat.ble (o+n) c.length && Nat.ble n (K / 2) && Nat.ble n 1000000) with
    | false=>rw [hb] at hc; cases hc
    | true=>
     rw [hb] at hc
     simp only [cond_true] at hc
     obtain ⟨rfl,rfl⟩:=Prod.mk.inj (Option.some.inj hc)
     rw [Bool.and_eq_true,Bool.and_eq_true] at hb
     have hl1:=Nat.le_of_ble_eq_true hb.1.1
     have hl2:=Nat.le_of_ble_eq_true hb.1.2
     have hl3:=Nat.le_of_ble_eq_true hb.2
     have hzl:zs.length=n:=by
      have h1:=congrArg List.length (intsOf_some hz)
      rw [List.length_take,List.length_drop,List.length_map] at h1
      omega
     obtain ⟨l'⟩:=args'
     obtain ⟨hlen,hval⟩:=ha
     match l',hlen with
     | [v0],_=>
      have hv:=hval 0 _ v0 rfl rfl
      obtain ⟨b',c',rfl,hσ,hCR⟩:=slice_inv hv rfl
      obtain ⟨o',hob,hor⟩:=hr.obj b b' _ hσ hg
      have hblt:=(hr.lt b b' hσ).2
      cases hor with
      | @cells _ cc _ _ f' hcell hfree hcap=>
       have hat:∀ (j:Nat) (x:Int),zs[j]? = some x→cc[o+j]? = some (.int .i64 x):=fun j x hx=>by
        have h1:((c.drop o).take n)[j]? = some (.int .i64 x):=by rw [intsOf_some hz,List.getElem?_map,hx]; rfl
        have hj:=(List.getElem?_eq_some_iff.1 hx).1
        rw [List.getElem?_take,if_pos (by omega),List.getElem?_drop] at h1
        obtain ⟨u',q1,q2⟩:=hcell _ _ h1
        cases q2 with
        | int=>exact q1
       have hH:Holds (Value.int .i64) w b' o zs.toArray:=fun j hj=>by
        have hj':j<zs.length:=by simpa using hj
        have hx:=hat j (zs[j]'hj') (List.getElem?_eq_getElem _)
        have hlt:=(Array.getElem?_eq_some_iff.1 hx).1
        refine ⟨?_,cells_free hob (hfree rfl) _ hlt⟩
        unfold World.cell?
        simp only [hob]
        rw [hx]
        simp [hj']
       have hcl:c.length≤cc.size:=by
        rcases Nat.lt_or_ge cc.size c.length with h1 | h1
        ·obtain ⟨u',q1,-⟩:=hcell cc.size _ (List.getElem?_eq_getElem h1)
         simp at q1
        ·exact h1
       have hso:=sortInt_o b' o c' zs w hH hblt (by omega)
       rw [hzl] at hso
       refine hso.mono fun e w' ⟨he,m,os,hw⟩=>?_
       obtain ⟨ys,hys⟩:∃ ys,(zs.mergeSort fun x y=>decide (x≤y))=ys:=⟨_,rfl⟩
       rw [hys] at hw ⊢
       have hyl:ys.length=n:=by rw [← hys,List.length_mergeSort]; exact hzl
       obtain ⟨w1,hw1⟩:∃ w1,putRow (Value.int .i64) (Sort.ahead w m) b' o ys.toArray=w1:=⟨_,rfl⟩
       have hsame:Same b' w w1:=by
        subst hw1
        refine ⟨rfl,rfl,rfl,by rw [size_putRow]; rfl,fun x hx=>?_⟩
        unfold putRow mapBlock
        have hne:b'≠x:=fun e=>hx e.symm
        simp [Array.getElem?_modify,hne]
       have hblk:w1.heap[b']? = some (.cells (putCells (Value.int .i64) o ys.toArray cc) e0 f'):=by
        subst hw1
        unfold putRow mapBlock
        have:(Sort.ahead w m).heap[b']? = some (.cells cc e0 f'):=hob
        simp only [Array.getElem?_modify,if_true,this]
        rfl
       have hor1:OR Tryz.prog σ b' (.cells (c.take o ++ ys.map (Value.int .i64) ++ c.drop (o+n)) e0 false) (.cells (putCells (Value.int .i64) o ys.toArray cc) e0 f'):=by
        have hps:(putCells (Value.int .i64) o ys.toArray cc).size=cc.size:=by unfold putCells; simp
        refine .cells (fun i v hi=>?_) (fun h=>by rw [hps]; exact hfree h) (fun i hi=>by rw [hps]; exact hcap i hi)
        have hil:=(List.getElem?_eq_some_iff.1 hi).1
        rw [List.length_append,List.length_append,List.length_take,List.length_drop,List.length_map] at hil
        have hic:i<cc.size:=by omega
        have hpi:(putCells (Value.int .i64) o ys.toArray cc)[i]? = some (if o≤i∧i<o+ys.toArray.size then Value.int .i64 ys.toArray[i - o]! else cc[i]):=by
         unfold putCells
         rw [Array.getElem?_mapIdx,Array.getElem?_eq_getElem hic]
         rfl
        by_cases h1:i<o
        ·rw [List.getElem?_append_left (by rw [List.length_append,List.length_take,List.length_map]; omega),List.getElem?_append_left (by rw [List.length_take]; omega),List.getElem?_take,if_pos h1] at hi
         obtain ⟨u',q1,q2⟩:=hcell i v hi
         refine ⟨u',?_,q2⟩
         rw [hpi,if_neg (by omega),← Array.getElem?_eq_getElem hic]
         exact q1
        ·by_cases h2:i<o+n
         ·rw [List.getElem?_append_left (by rw [List.length_append,List.length_take,List.length_map]; omega),List.getElem?_append_right (by rw [List.length_take]; omega),List.length_take,List.getElem?_map] at hi
          have hio:i - min o c.length=i - o:=by omega
          rw [hio,List.getElem?_eq_getElem (by omega)] at hi
          obtain rfl:=Option.some.inj hi
          refine ⟨_,?_,.int _ _⟩
          rw [hpi,if_pos ⟨by omega,by simp; omega⟩]
          have hlt:i - o<ys.length:=by omega
          simp [hlt]
         ·rw [List.getElem?_append_right (by rw [List.length_append,List.length_take,List.length_map]; omega),List.length_append,List.length_take,List.length_map,List.getElem?_drop] at hi
          have hio:o+n+(i - (min o c.length+ys.length))=i:=by omega
          rw [hio] at hi
          obtain ⟨u',q1,q2⟩:=hcell i v hi
          refine ⟨u',?_,q2⟩
          rw [hpi,if_neg (by simp; omega),← Array.getElem?_eq_getElem hic]
          exact q1
       rw [hw1] at hw
       have st1:St Tryz.prog σ h w σ (h.put b (.cells (c.take o ++ ys.map (Value.int .i64) ++ c.drop (o+n)) e0 false)) w1:=St.upd hr hσ hg (fun c e h=>by cases h) hsame hblk hor1
       have st2:=St.grown (w':=w') st1.hr (by
        subst hw
        exact ⟨rfl,rfl,rfl,by simp [grow],fun k hk=>by simp [grow,Array.getElem?_append,hk]⟩)
       exact ⟨.tuple #[],σ,he,st1.trans st2,.tuple rfl fun i v v' h=>by simp at h⟩
  ·cases hc
 ·cases hc
theorem orc_ok:CallOk Tryz.prog orc:=by
 intro g args h v h' hc σ w args' hr ha
 unfold orc at hc
 cases h1:Nat.beq g 276 with
 | true=>
  rw [h1] at hc
  obtain rfl:=Nat.eq_of_beq_eq_true h1
  exact sortA_ok hc hr ha
 | false=>
  rw [h1] at hc
  simp only [cond_false] at hc
  cases h2:Nat.beq g 4 with
  | false=>rw [h2] at hc; cases hc
  | true=>
   rw [h2] at hc
   obtain rfl:=Nat.eq_of_beq_eq_true h2
   simp only [cond_true] at hc
   unfold knownA at hc
   split at hc
   ·obtain ⟨rfl,rfl⟩:=Prod.mk.inj (Option.some.inj hc)
    have ha0:args' = #[]:=by
     obtain ⟨l⟩:=args'
     have:=ha.1
     match l,this with
     | [],_=>rfl
    subst ha0
    exact (known_c w).mono fun e w' ⟨he,hb⟩=>⟨.bool true,σ,he,St.grown hr hb,.bool true⟩
   ·cases hc
end Eva
end Go.Proofs.YteffnclboadalaaGreatDoor
