/-
A part of the proof of TopShut: lemmas that the last text joins. No condition.
-/
import Derived.Test.YteffnclboadalaaGreatDoorPc
import Derived.Lib.Hide
import Derived.Test.YteffnclboadalaaGreatDoorPe
import Derived.Test.YteffnclboadalaaGreatDoorPi
namespace Go.Proofs.YteffnclboadalaaGreatDoor
set_option linter.unusedVariables false
set_option linter.unusedSimpArgs false
set_option linter.unusedSectionVars false
set_option linter.unnecessarySimpa false
section
open Go Go.RowKit
namespace Eva
section
variable {h h' h'':AH} {b b' o:Nat} {ao:AO} {c:List Value} {e:TypeId} {f:Bool} {v:Value}
theorem get_new (h:AH) (ao:AO) (b:Nat):(h.new ao).get b=if b=h.next then some ao else h.get b:=by
 show (h.t.set h.next (some ao)).get b=_
 by_cases e:b=h.next
 ·subst e; rw [Tr.get_set,if_pos rfl]
 ·rw [Tr.get_set_ne _ _ (fun h=>e h.symm),if_neg e]; rfl
theorem get_put (h:AH) (n:Nat) (ao:AO) (b:Nat):(h.put n ao).get b=if b=n then some ao else h.get b:=by
 show (h.t.set n (some ao)).get b=_
 by_cases e:b=n
 ·subst e; rw [Tr.get_set,if_pos rfl]
 ·rw [Tr.get_set_ne _ _ (fun h=>e h.symm),if_neg e]; rfl
theorem get_del (h:AH) (n b:Nat):(h.del n).get b=if b=n then none else h.get b:=by
 show (h.t.set n none).get b=_
 by_cases e:b=n
 ·subst e; rw [Tr.get_set,if_pos rfl]
 ·rw [Tr.get_set_ne _ _ (fun h=>e h.symm),if_neg e]; rfl
theorem next_new (h:AH) (ao:AO):(h.new ao).next=h.next+1:=rfl
theorem next_del (h:AH) (n:Nat):(h.del n).next=h.next:=rfl
abbrev Bk (h:AH) (b:Nat) (c:List Value) (e:TypeId):Prop:=h.get b=some (.cells c e false)
theorem ldC_of (hb:h.get b=some (.cells c e f)) (ho:c[o]? = some v):ldC h b o=some v:=by
 unfold ldC cellsAt; rw [hb]; exact ho
theorem ldC_bk (hb:h.get b=some (.cells c e f)) (o:Nat):ldC h b o=c[o]?:=by
 unfold ldC cellsAt; rw [hb]
theorem ldC_congr (hb:h'.get b=h.get b) (o:Nat):ldC h' b o=ldC h b o:=by
 unfold ldC cellsAt; rw [hb]
theorem cutL_ok {l:List Value} {o n:Nat} (hl:o+n≤l.length):cutL l o n=some ((l.drop o).take n):=by
 unfold cutL
 have:((l.drop o).take n).length=n:=by simp; omega
 simp only [this,Nat.beq_refl,cond_true]
theorem ldN_bk (hb:h.get b=some (.cells c e f)) {n:Nat} (ho:o+n≤c.length):ldN h b o n=some ((c.drop o).take n):=by
 unfold ldN cellsAt; rw [hb]; exact cutL_ok ho
theorem get_some_of_ldC (hl:ldC h b o=some v):∃ c e f,h.get b=some (.cells c e f)∧c[o]? = some v:=by
 unfold ldC cellsAt at hl
 cases hg:h.get b with
 | none=>rw [hg] at hl; cases hl
 | some ao=>
  rw [hg] at hl
  cases ao with
  | cells c e f=>exact ⟨c,e,f,rfl,hl⟩
  | map es k=>cases hl
  | iter s p=>cases hl
theorem ldN_of {n:Nat} {l:List Value} (hl:l.length=n) (hn:0<n) (hc:∀ j u,l[j]? = some u→ldC h b (o+j)=some u):ldN h b o n=some l:=by
 have h0:=hc 0 (l[0]'(by omega)) (List.getElem?_eq_getElem (by omega))
 obtain ⟨c,e,f,hg,-⟩:=get_some_of_ldC h0
 have key:∀ j u,l[j]? = some u→c[o+j]? = some u:=fun j u hj=>by have:=hc j u hj; rwa [ldC_bk hg] at this
 have hlen:o+n≤c.length:=by
  have:=key (n - 1) (l[n - 1]'(by omega)) (List.getElem?_eq_getElem (by omega))
  have:=(List.getElem?_eq_some_iff.1 this).1
  omega
 rw [ldN_bk hg hlen]
 congr 1
 apply List.ext_getElem?
 intro j
 rw [List.getElem?_take,List.getElem?_drop]
 by_cases hj:j<n
 ·rw [if_pos hj,key j l[j] (List.getElem?_eq_getElem (by omega)),List.getElem?_eq_getElem (by omega)]
 ·rw [if_neg hj,List.getElem?_eq_none (by omega)]
theorem setL_ok:∀ (c:List Value) (o:Nat) (vs:List Value),o+vs.length≤c.length→setL c o vs=some (c.take o ++ vs ++ c.drop (o+vs.length))
 | c,o,[],_=>by cases c <;> simp [setL]
 | [],o,v :: vs,hl=>by simp at hl
 | x :: c,0,v :: vs,hl=>by
  show (setL c 0 vs).map (v :: ·)=_
  rw [setL_ok c 0 vs (by simp at hl; simp; omega)]
  simp
 | x :: c,o+1,v :: vs,hl=>by
  show (setL c o (v :: vs)).map (x :: ·)=_
  rw [setL_ok c o (v :: vs) (by simp at hl; simp; omega)]
  rw [show o+1+(v :: vs).length=(o+(v :: vs).length)+1 by omega,List.drop_succ_cons]
  rfl
theorem setL_one {o:Nat} (ho:o<c.length):setL c o [v]=some (c.set o v):=by
 rw [setL_ok c o [v] (by simp; omega)]
 congr 1
 rw [List.set_eq_take_append_cons_drop,if_pos ho]
 simp
theorem st1 (hb:Bk h b c e) (ho:o<c.length) (hf:flat v=true):stC h b o [v]=some (h.put b (.cells (c.set o v) e false)):=by
 unfold stC storeA
 simp only
 rw [hb]
 simp only
 have:allL flat [v]=true:=by unfold allL; simp only [hf]; rfl
 rw [this,setL_one ho]
 rfl
theorem allL_ofA {α:Type} {p:α→Bool}:∀ {l:List α},(∀ x∈l,p x=true)→allL p l=true
 | [],_=>rfl
 | x :: l,hl=>by
  show cond (p x) (allL p l) false=true
  rw [hl x (by simp),allL_ofA fun y hy=>hl y (List.mem_cons_of_mem _ hy)]; rfl
theorem stN {vs:List Value} (hb:Bk h b c e) (ho:o+vs.length≤c.length) (hf:∀ v∈vs,flat v=true):stC h b o vs=some (h.put b (.cells (c.take o ++ vs ++ c.drop (o+vs.length)) e false)):=by
 unfold stC storeA
 simp only
 rw [hb]
 simp only
 rw [allL_ofA hf,setL_ok c o vs ho]
 rfl
structure Nw (h h':AH):Prop where
 next:h.next≤h'.next
 get:∀ b,b<h.next→h'.get b=h.get b
theorem Nw.refl (h:AH):Nw h h:=⟨Nat.le_refl _,fun _ _=>rfl⟩
theorem Nw.trans (a:Nw h h') (k:Nw h' h''):Nw h h'':=⟨Nat.le_trans a.next k.next,fun b hb=>(k.get b (Nat.lt_of_lt_of_le hb a.next)).trans (a.get b hb)⟩
theorem Nw.new (h:AH) (ao:AO):Nw h (h.new ao):=⟨Nat.le_succ _,fun b hb=>by rw [get_new,if_neg (by omega)]⟩
theorem Nw.put (a:Nw h h') {n:Nat} (hn:h.next≤n) (ao:AO):Nw h (h'.put n ao):=⟨a.next,fun b hb=>by rw [get_put,if_neg (by omega)]; exact a.get b hb⟩
theorem Nw.del (a:Nw h h') {n:Nat} (hn:h.next≤n):Nw h (h'.del n):=⟨a.next,fun b hb=>by rw [get_del,if_neg (by omega)]; exact a.get b hb⟩
theorem Nw.ldC (a:Nw h h') (hb:b<h.next) (o:Nat):ldC h' b o=Eva.ldC h b o:=ldC_congr (a.get b hb) o
theorem Nw.bk (a:Nw h h') (hb:b<h.next) (hk:Bk h b c e):Bk h' b c e:=(a.get b hb).trans hk
theorem news (e1:h' = h.new ao):Nw h h'∧h'.get h.next=some ao∧h'.next=h.next+1:=by
 subst e1
 exact ⟨Nw.new h ao,by rw [get_new,if_pos rfl],rfl⟩
structure Mt (S:Nat→Prop) (h h':AH):Prop where
 next:h.next≤h'.next
 get:∀ b,b<h.next→¬ S b→h'.get b=h.get b
section
variable {S S':Nat→Prop}
theorem Mt.refl (S:Nat→Prop) (h:AH):Mt S h h:=⟨Nat.le_refl _,fun _ _ _=>rfl⟩
theorem Mt.of (a:Nw h h'):Mt S h h':=⟨a.next,fun b hb _=>a.get b hb⟩
theorem Mt.trans (a:Mt S h h') (k:Mt S' h' h'') (hS:∀ b,S' b→b<h.next→S b):Mt S h h'':=⟨Nat.le_trans a.next k.next,fun b hb hn=>(k.get b (Nat.lt_of_lt_of_le hb a.next) (fun hs=>hn (hS b hs hb))).trans (a.get b hb hn)⟩
theorem Mt.then (a:Mt S h h') (k:Mt S h' h''):Mt S h h'':=a.trans k fun _ h _=>h
theorem Mt.nw (a:Mt S h h') (k:Nw h' h''):Mt S h h'':=a.then (.of k)
theorem Mt.mono (a:Mt S h h') (hS:∀ b,S b→b<h.next→S' b):Mt S' h h':=⟨a.next,fun b hb hn=>a.get b hb (fun hs=>hn (hS b hs hb))⟩
theorem Mt.put (a:Mt S h h') {n:Nat} (hn:S n∨h.next≤n) (ao:AO):Mt S h (h'.put n ao):=⟨a.next,fun b hb hs=>by
 rw [get_put,if_neg (fun e=>by subst e; exact hn.elim hs (fun h=>by omega))]; exact a.get b hb hs⟩
theorem Mt.del (a:Mt S h h') {n:Nat} (hn:S n∨h.next≤n):Mt S h (h'.del n):=⟨a.next,fun b hb hs=>by
 rw [get_del,if_neg (fun e=>by subst e; exact hn.elim hs (fun h=>by omega))]; exact a.get b hb hs⟩
theorem Mt.is_nw {h0:AH} (a:Mt S h h') (k:Nw h0 h) (hS:∀ b,S b→h0.next≤b):Nw h0 h':=⟨Nat.le_trans k.next a.next,fun b hb=>(a.get b (Nat.lt_of_lt_of_le hb k.next) (fun hs=>by have:=hS b hs; omega)).trans (k.get b hb)⟩
theorem Mt.bk (a:Mt S h h') (hb:b<h.next) (hs:¬ S b) (hk:Bk h b c e):Bk h' b c e:=(a.get b hb hs).trans hk
theorem Mt.ldC (a:Mt S h h') (hb:b<h.next) (hs:¬ S b) (o:Nat):ldC h' b o=Eva.ldC h b o:=ldC_congr (a.get b hb hs) o
end
end
structure Rc (α:Type) where
 size:Nat
 rel:(Nat→Prop)→AH→List Value→α→Prop
 len:∀ {F h cs x},rel F h cs x→cs.length=size
 flat:∀ {F h cs x},rel F h cs x→∀ u∈cs,flat u=true
 keep:∀ {F h h' cs x},(∀ b,F b→b<h.next→h'.get b=h.get b)→h.next≤h'.next→rel F h cs x→rel F h' cs x
 mono:∀ {F G h cs x},(∀ b,F b→b<h.next→G b)→rel F h cs x→rel G h cs x
structure Sz {α:Type} (r:Rc α) (F:Nat→Prop) (h:AH) (A:Option Addr) (n K:Nat) (xs:List α):Prop where
 len:xs.length=n
 at_:0<n→∃ b o,A=some ⟨b,o,none⟩∧F b∧b<h.next∧∀ k x,xs[k]? = some x→∃ cs,(∀ j u,cs[j]? = some u→ldC h b (o+(k * r.size+j))=some u)∧r.rel F h cs x
structure Sa {α:Type} (r:Rc α) (F:Nat→Prop) (h:AH) (A:Option Addr) (n K:Nat) (xs:List α):Prop where
 len:xs.length=n
 shape:(A=none∧n=0∧K=0)∨∃ b o,A=some ⟨b,o,none⟩
 at_:0<n→∃ b o,A=some ⟨b,o,none⟩∧F b∧b<h.next∧∀ k x,xs[k]? = some x→∃ cs,(∀ j u,cs[j]? = some u→ldC h b (o+(k * r.size+j))=some u)∧r.rel F h cs x
section
variable {α:Type} {r:Rc α} {F G S:Nat→Prop} {h h':AH} {A:Option Addr} {n K:Nat} {xs:List α}
theorem Sa.keep (hs:Sa r F h A n K xs) (hk:∀ b,F b→b<h.next→h'.get b=h.get b) (hn:h.next≤h'.next):Sa r F h' A n K xs:=by
 refine ⟨hs.len,hs.shape,fun h0=>?_⟩
 obtain ⟨b,o,hA,hF,hb,hx⟩:=hs.at_ h0
 refine ⟨b,o,hA,hF,Nat.lt_of_lt_of_le hb hn,fun k x hkx=>?_⟩
 obtain ⟨cs,hc,hr⟩:=hx k x hkx
 exact ⟨cs,fun j u hu=>(ldC_congr (hk b hF hb) _).trans (hc j u hu),r.keep hk hn hr⟩
theorem Sa.nw (hs:Sa r F h A n K xs) (a:Nw h h'):Sa r F h' A n K xs:=hs.keep (fun b _ hb=>a.get b hb) a.next
theorem Sa.off (hs:Sa r F h A n K xs) (a:Mt S h h') (hS:∀ b,F b→¬ S b):Sa r F h' A n K xs:=hs.keep (fun b hF hb=>a.get b hb (hS b hF)) a.next
theorem Sa.mono (hs:Sa r F h A n K xs) (hFG:∀ b,F b→b<h.next→G b):Sa r G h A n K xs:=by
 refine ⟨hs.len,hs.shape,fun h0=>?_⟩
 obtain ⟨b,o,hA,hF,hb,hx⟩:=hs.at_ h0
 refine ⟨b,o,hA,hFG b hF hb,hb,fun k x hkx=>?_⟩
 obtain ⟨cs,hc,hr⟩:=hx k x hkx
 exact ⟨cs,hc,r.mono hFG hr⟩
theorem Sa.nil (r:Rc α) (F:Nat→Prop) (h:AH):Sa r F h none 0 0 []:=⟨rfl,.inl ⟨rfl,rfl,rfl⟩,fun h=>absurd h (by omega)⟩
theorem Sa.nil0 (hs:Sa r F h A n K xs) (hA:A=none):n=0∧K=0:=by
 rcases hs.shape with ⟨_,h1,h2⟩ | ⟨b,o,h1⟩
 ·exact ⟨h1,h2⟩
 ·rw [hA] at h1; cases h1
theorem Sa.some_ (hs:Sa r F h A n K xs) (hA:A≠none):∃ b o,A=some ⟨b,o,none⟩:=by
 rcases hs.shape with ⟨h1,_,_⟩ | h1
 ·exact absurd h1 hA
 ·exact h1
theorem Sa.eqok (hs:Sa r F h A n K xs):EqOk (.slice A n K):=by
 rcases hs.shape with ⟨rfl,_,_⟩ | ⟨b,o,rfl⟩
 ·trivial
 ·rfl
theorem Sa.z (hs:Sa r F h A n K xs):Sz r F h A n K xs:=⟨hs.len,hs.at_⟩
theorem Sz.keep (hs:Sz r F h A n K xs) (hk:∀ b,F b→b<h.next→h'.get b=h.get b) (hn:h.next≤h'.next):Sz r F h' A n K xs:=by
 refine ⟨hs.len,fun h0=>?_⟩
 obtain ⟨b,o,hA,hF,hb,hx⟩:=hs.at_ h0
 refine ⟨b,o,hA,hF,Nat.lt_of_lt_of_le hb hn,fun k x hkx=>?_⟩
 obtain ⟨cs,hc,hr⟩:=hx k x hkx
 exact ⟨cs,fun j u hu=>(ldC_congr (hk b hF hb) _).trans (hc j u hu),r.keep hk hn hr⟩
theorem Sz.nw (hs:Sz r F h A n K xs) (a:Nw h h'):Sz r F h' A n K xs:=hs.keep (fun b _ hb=>a.get b hb) a.next
theorem Sz.off (hs:Sz r F h A n K xs) (a:Mt S h h') (hS:∀ b,F b→¬ S b):Sz r F h' A n K xs:=hs.keep (fun b hF hb=>a.get b hb (hS b hF)) a.next
theorem Sz.mono (hs:Sz r F h A n K xs) (hFG:∀ b,F b→b<h.next→G b):Sz r G h A n K xs:=by
 refine ⟨hs.len,fun h0=>?_⟩
 obtain ⟨b,o,hA,hF,hb,hx⟩:=hs.at_ h0
 refine ⟨b,o,hA,hFG b hF hb,hb,fun k x hkx=>?_⟩
 obtain ⟨cs,hc,hr⟩:=hx k x hkx
 exact ⟨cs,hc,r.mono hFG hr⟩
theorem Sz.get (hs:Sz r F h A n K xs) {k:Nat} (hk:k<n):∃ b o x cs,A=some ⟨b,o,none⟩∧F b∧b<h.next∧xs[k]? = some x∧(∀ j u,cs[j]? = some u→ldC h b (o+(k * r.size+j))=some u)∧r.rel F h cs x:=by
 obtain ⟨b,o,hA,hF,hb,hx⟩:=hs.at_ (by omega)
 have hl:k<xs.length:=by rw [hs.len]; exact hk
 obtain ⟨cs,hc,hr⟩:=hx k xs[k] (List.getElem?_eq_getElem hl)
 exact ⟨b,o,xs[k],cs,hA,hF,hb,List.getElem?_eq_getElem hl,hc,hr⟩
theorem Sa.get (hs:Sa r F h A n K xs) {k:Nat} (hk:k<n):∃ b o x cs,A=some ⟨b,o,none⟩∧F b∧b<h.next∧xs[k]? = some x∧(∀ j u,cs[j]? = some u→ldC h b (o+(k * r.size+j))=some u)∧r.rel F h cs x:=by
 obtain ⟨b,o,hA,hF,hb,hx⟩:=hs.at_ (by omega)
 have hl:k<xs.length:=by rw [hs.len]; exact hk
 obtain ⟨cs,hc,hr⟩:=hx k xs[k] (List.getElem?_eq_getElem hl)
 exact ⟨b,o,xs[k],cs,hA,hF,hb,List.getElem?_eq_getElem hl,hc,hr⟩
end
def Rc.int (k:IntKind):Rc Int where
 size:=1
 rel:=fun _ _ cs x=>cs = [.int k x]
 len:=fun h=>by rw [h]; rfl
 flat:=fun h u hu=>by rw [h] at hu; simp at hu; subst hu; rfl
 keep:=fun _ _ h=>h
 mono:=fun _ h=>h
def Rc.bool:Rc Bool where
 size:=1
 rel:=fun _ _ cs x=>cs = [.bool x]
 len:=fun h=>by rw [h]; rfl
 flat:=fun h u hu=>by rw [h] at hu; simp at hu; subst hu; rfl
 keep:=fun _ _ h=>h
 mono:=fun _ h=>h
def Rc.slice {α:Type} (r:Rc α):Rc (List α) where
 size:=1
 rel:=fun F h cs xs=>∃ A n K,cs = [.slice A n K]∧Sa r F h A n K xs
 len:=fun ⟨_,_,_,h,_⟩=>by rw [h]; rfl
 flat:=fun ⟨_,_,_,h,_⟩ u hu=>by rw [h] at hu; simp at hu; subst hu; rfl
 keep:=fun hk hn ⟨A,n,K,h,hs⟩=>⟨A,n,K,h,hs.keep hk hn⟩
 mono:=fun hFG ⟨A,n,K,h,hs⟩=>⟨A,n,K,h,hs.mono hFG⟩
def Rc.sliceZ {α:Type} (r:Rc α):Rc (List α) where
 size:=1
 rel:=fun F h cs xs=>∃ A n K,cs = [.slice A n K]∧Sz r F h A n K xs
 len:=fun ⟨_,_,_,h,_⟩=>by rw [h]; rfl
 flat:=fun ⟨_,_,_,h,_⟩ u hu=>by rw [h] at hu; simp at hu; subst hu; rfl
 keep:=fun hk hn ⟨A,n,K,h,hs⟩=>⟨A,n,K,h,hs.keep hk hn⟩
 mono:=fun hFG ⟨A,n,K,h,hs⟩=>⟨A,n,K,h,hs.mono hFG⟩
def Rc.tableZ:Rc (Int × Int × List Int) where
 size:=3
 rel:=fun F h cs x=>∃ A n K,cs = [.int .i64 x.1,.int .i64 x.2.1,.slice A n K]∧Sz (Rc.int .i64) F h A n K x.2.2
 len:=fun ⟨_,_,_,h,_⟩=>by rw [h]; rfl
 flat:=fun ⟨_,_,_,h,_⟩ u hu=>by rw [h] at hu; simp at hu; rcases hu with rfl | rfl | rfl <;> rfl
 keep:=fun hk hn ⟨A,n,K,h,hs⟩=>⟨A,n,K,h,hs.keep hk hn⟩
 mono:=fun hFG ⟨A,n,K,h,hs⟩=>⟨A,n,K,h,hs.mono hFG⟩
def Rc.pair (k k':IntKind):Rc (Int × Int) where
 size:=2
 rel:=fun _ _ cs x=>cs = [.int k x.1,.int k' x.2]
 len:=fun h=>by rw [h]; rfl
 flat:=fun h u hu=>by rw [h] at hu; simp at hu; rcases hu with rfl | rfl <;> rfl
 keep:=fun _ _ h=>h
 mono:=fun _ h=>h
def Rc.tri (k k' k'':IntKind):Rc (Int × Int × Int) where
 size:=3
 rel:=fun _ _ cs x=>cs = [.int k x.1,.int k' x.2.1,.int k'' x.2.2]
 len:=fun h=>by rw [h]; rfl
 flat:=fun h u hu=>by rw [h] at hu; simp at hu; rcases hu with rfl | rfl | rfl <;> rfl
 keep:=fun _ _ h=>h
 mono:=fun _ h=>h
def Rc.table:Rc (Int × Int × List Int) where
 size:=3
 rel:=fun F h cs x=>∃ A n K,cs = [.int .i64 x.1,.int .i64 x.2.1,.slice A n K]∧Sa (Rc.int .i64) F h A n K x.2.2
 len:=fun ⟨_,_,_,h,_⟩=>by rw [h]; rfl
 flat:=fun ⟨_,_,_,h,_⟩ u hu=>by rw [h] at hu; simp at hu; rcases hu with rfl | rfl | rfl <;> rfl
 keep:=fun hk hn ⟨A,n,K,h,hs⟩=>⟨A,n,K,h,hs.keep hk hn⟩
 mono:=fun hFG ⟨A,n,K,h,hs⟩=>⟨A,n,K,h,hs.mono hFG⟩
def Rc.gate:Rc (List Int × List Int) where
 size:=2
 rel:=fun F h cs x=>∃ A n K B m L,cs = [.slice A n K,.slice B m L]∧Sa (Rc.int .i64) F h A n K x.1∧Sa (Rc.int .i64) F h B m L x.2
 len:=fun ⟨_,_,_,_,_,_,h,_,_⟩=>by rw [h]; rfl
 flat:=fun ⟨_,_,_,_,_,_,h,_,_⟩ u hu=>by rw [h] at hu; simp at hu; rcases hu with rfl | rfl <;> rfl
 keep:=fun hk hn ⟨A,n,K,B,m,L,h,h1,h2⟩=>⟨A,n,K,B,m,L,h,h1.keep hk hn,h2.keep hk hn⟩
 mono:=fun hFG ⟨A,n,K,B,m,L,h,h1,h2⟩=>⟨A,n,K,B,m,L,h,h1.mono hFG,h2.mono hFG⟩
abbrev cI:Rc Int:=Rc.int .i64
abbrev cRows:Rc (List Int):=Rc.slice cI
section
variable {F:Nat→Prop} {h:AH} {A:Option Addr} {n K:Nat}
theorem Sa.int {xs:List Int} (hs:Sa cI F h A n K xs) {k:Nat} (hk:k<n):∃ b o x,A=some ⟨b,o,none⟩∧F b∧b<h.next∧xs[k]? = some x∧ldC h b (o+k)=some (.int .i64 x):=by
 obtain ⟨b,o,x,cs,hA,hF,hb,hx,hc,hr⟩:=hs.get hk
 refine ⟨b,o,x,hA,hF,hb,hx,?_⟩
 have hr':cs = [.int .i64 x]:=hr
 have:=hc 0 (.int .i64 x) (by rw [hr']; rfl)
 simpa [Rc.int] using this
theorem Sa.bool {xs:List Bool} (hs:Sa Rc.bool F h A n K xs) {k:Nat} (hk:k<n):∃ b o x,A=some ⟨b,o,none⟩∧F b∧b<h.next∧xs[k]? = some x∧ldC h b (o+k)=some (.bool x):=by
 obtain ⟨b,o,x,cs,hA,hF,hb,hx,hc,hr⟩:=hs.get hk
 refine ⟨b,o,x,hA,hF,hb,hx,?_⟩
 have hr':cs = [.bool x]:=hr
 have:=hc 0 (.bool x) (by rw [hr']; rfl)
 simpa [Rc.bool] using this
theorem Sa.row {α:Type} {r:Rc α} {xs:List (List α)} (hs:Sa (Rc.slice r) F h A n K xs) {k:Nat} (hk:k<n):∃ b o A' n' K' x,A=some ⟨b,o,none⟩∧F b∧b<h.next∧xs[k]? = some x∧ldC h b (o+k)=some (.slice A' n' K')∧Sa r F h A' n' K' x:=by
 obtain ⟨b,o,x,cs,hA,hF,hb,hx,hc,A',n',K',hcs,hs'⟩:=hs.get hk
 refine ⟨b,o,A',n',K',x,hA,hF,hb,hx,?_,hs'⟩
 have:=hc 0 (.slice A' n' K') (by rw [hcs]; rfl)
 simpa [Rc.slice] using this
theorem Sa.pair {xs:List (Int × Int)} (hs:Sa (Rc.pair .i64 .i64) F h A n K xs) {k:Nat} (hk:k<n):∃ b o x y,A=some ⟨b,o,none⟩∧F b∧b<h.next∧xs[k]? = some (x,y)∧ldC h b (o+k * 2)=some (.int .i64 x)∧ldC h b (o+k * 2+1)=some (.int .i64 y):=by
 obtain ⟨b,o,x,cs,hA,hF,hb,hx,hc,hr⟩:=hs.get hk
 have hr':cs = [.int .i64 x.1,.int .i64 x.2]:=hr
 have h0:=hc 0 (.int .i64 x.1) (by rw [hr']; rfl)
 have h1:=hc 1 (.int .i64 x.2) (by rw [hr']; rfl)
 exact ⟨b,o,x.1,x.2,hA,hF,hb,hx,by simpa [Rc.pair] using h0,by simpa [Rc.pair,Nat.add_assoc] using h1⟩
theorem Sa.tri {xs:List (Int × Int × Int)} (hs:Sa (Rc.tri .i64 .i64 .i64) F h A n K xs) {k:Nat} (hk:k<n):∃ b o x y z,A=some ⟨b,o,none⟩∧F b∧b<h.next∧xs[k]? = some (x,y,z)∧ldC h b (o+k * 3)=some (.int .i64 x)∧ldC h b (o+k * 3+1)=some (.int .i64 y)∧ldC h b (o+k * 3+2)=some (.int .i64 z):=by
 obtain ⟨b,o,x,cs,hA,hF,hb,hx,hc,hr⟩:=hs.get hk
 have hr':cs = [.int .i64 x.1,.int .i64 x.2.1,.int .i64 x.2.2]:=hr
 have h0:=hc 0 (.int .i64 x.1) (by rw [hr']; rfl)
 have h1:=hc 1 (.int .i64 x.2.1) (by rw [hr']; rfl)
 have h2:=hc 2 (.int .i64 x.2.2) (by rw [hr']; rfl)
 exact ⟨b,o,x.1,x.2.1,x.2.2,hA,hF,hb,hx,by simpa [Rc.tri] using h0,by simpa [Rc.tri,Nat.add_assoc] using h1,by simpa [Rc.tri,Nat.add_assoc] using h2⟩
theorem Sa.table {xs:List (Int × Int × List Int)} (hs:Sa Rc.table F h A n K xs) {k:Nat} (hk:k<n):∃ b o x y A' n' K' zs,A=some ⟨b,o,none⟩∧F b∧b<h.next∧xs[k]? = some (x,y,zs)∧ldC h b (o+k * 3)=some (.int .i64 x)∧ldC h b (o+k * 3+1)=some (.int .i64 y)∧ldC h b (o+k * 3+2)=some (.slice A' n' K')∧Sa cI F h A' n' K' zs:=by
 obtain ⟨b,o,x,cs,hA,hF,hb,hx,hc,A',n',K',hr',hs'⟩:=hs.get hk
 have h0:=hc 0 (.int .i64 x.1) (by rw [hr']; rfl)
 have h1:=hc 1 (.int .i64 x.2.1) (by rw [hr']; rfl)
 have h2:=hc 2 (.slice A' n' K') (by rw [hr']; rfl)
 exact ⟨b,o,x.1,x.2.1,A',n',K',x.2.2,hA,hF,hb,hx,by simpa [Rc.table] using h0,by simpa [Rc.table,Nat.add_assoc] using h1,by simpa [Rc.table,Nat.add_assoc] using h2,hs'⟩
theorem Sa.gate {xs:List (List Int × List Int)} (hs:Sa Rc.gate F h A n K xs) {k:Nat} (hk:k<n):∃ b o A1 n1 K1 A2 n2 K2 x y,A=some ⟨b,o,none⟩∧F b∧b<h.next∧xs[k]? = some (x,y)∧ldC h b (o+k * 2)=some (.slice A1 n1 K1)∧ldC h b (o+k * 2+1)=some (.slice A2 n2 K2)∧Sa cI F h A1 n1 K1 x∧Sa cI F h A2 n2 K2 y:=by
 obtain ⟨b,o,x,cs,hA,hF,hb,hx,hc,A1,n1,K1,A2,n2,K2,hr',s1,s2⟩:=hs.get hk
 have h0:=hc 0 (.slice A1 n1 K1) (by rw [hr']; rfl)
 have h1:=hc 1 (.slice A2 n2 K2) (by rw [hr']; rfl)
 exact ⟨b,o,A1,n1,K1,A2,n2,K2,x.1,x.2,hA,hF,hb,hx,by simpa [Rc.gate] using h0,by simpa [Rc.gate,Nat.add_assoc] using h1,s1,s2⟩
theorem Sz.cells {α:Type} {r:Rc α} {xs:List α} (hs:Sz r F h A n K xs) (hn:0<n):∃ (b o:Nat) (cells:List Value),A=some ⟨b,o,none⟩∧F b∧b<h.next∧cells.length=n * r.size∧(∀ j u,cells[j]? = some u→ldC h b (o+j)=some u)∧(∀ u∈cells,flat u=true) ∧
  ∀ k x,xs[k]? = some x→r.rel F h ((cells.drop (k * r.size)).take r.size) x:=by
 obtain ⟨b,o,hA,hF,hb,hx⟩:=hs.at_ hn
 have key:∀ (l:List α) (k0:Nat),(∀ k x,l[k]? = some x→xs[k0+k]? = some x)→∃ cells:List Value,cells.length=l.length * r.size∧(∀ j u,cells[j]? = some u→ldC h b (o+(k0 * r.size+j))=some u)∧(∀ u∈cells,flat u=true) ∧
   ∀ k x,l[k]? = some x→r.rel F h ((cells.drop (k * r.size)).take r.size) x:=by
  intro l
  induction l with
  | nil=>exact fun k0 _=>⟨[],by simp,by simp,by simp,by simp⟩
  | cons y l ih=>
   intro k0 hl
   obtain ⟨cells,h1,h2,h3,h4⟩:=ih (k0+1) fun k x hk=>by
    have:=hl (k+1) x (by simpa using hk)
    rwa [show k0+(k+1)=k0+1+k by omega] at this
   obtain ⟨cs,hc,hr'⟩:=hx k0 y (by have:=hl 0 y rfl; simpa using this)
   have hlen:=r.len hr'
   refine ⟨cs ++ cells,by rw [List.length_append,h1,hlen,List.length_cons,Nat.succ_mul,Nat.add_comm],fun j u hj=>?_,fun u hu=>?_,fun k x hk=>?_⟩
   ·rw [List.getElem?_append] at hj
    split at hj
    ·exact hc j u hj
    ·rename_i hlt
     have:=h2 _ u hj
     rwa [show o+((k0+1) * r.size+(j - cs.length))=o+(k0 * r.size+j) by rw [hlen] at *; rw [Nat.succ_mul]; omega] at this
   ·rcases List.mem_append.1 hu with hu | hu
    ·exact r.flat hr' u hu
    ·exact h3 u hu
   ·cases k with
    | zero=>
     simp at hk
     subst hk
     rw [Nat.zero_mul,List.drop_zero,← hlen,List.take_left]
     exact hr'
    | succ k=>
     have h5:=h4 k x (by simpa using hk)
     rw [show (k+1) * r.size=cs.length+k * r.size by rw [hlen,Nat.succ_mul,Nat.add_comm],← List.drop_drop,List.drop_left]
     exact h5
 obtain ⟨cells,h1,h2,h3,h4⟩:=key xs 0 (fun k x hk=>by simpa using hk)
 exact ⟨b,o,cells,hA,hF,hb,by rw [h1,hs.len],fun j u hj=>by simpa using h2 j u hj,h3,h4⟩
theorem Sa.cells {α:Type} {r:Rc α} {xs:List α} (hs:Sa r F h A n K xs) (hn:0<n):∃ (b o:Nat) (cells:List Value),A=some ⟨b,o,none⟩∧F b∧b<h.next∧cells.length=n * r.size∧(∀ j u,cells[j]? = some u→ldC h b (o+j)=some u)∧(∀ u∈cells,flat u=true) ∧
  ∀ k x,xs[k]? = some x→r.rel F h ((cells.drop (k * r.size)).take r.size) x:=hs.z.cells hn
theorem Sa.of_bk {α:Type} {r:Rc α} {xs:List α} {g:Nat} {e:TypeId} {f:Bool} {c:List Value} (hb:h.get g=some (.cells c e f)) (hl:xs.length=n) (hF:F g) (hg:g<h.next) (hx:∀ k x,xs[k]? = some x→r.rel F h ((c.drop (k * r.size)).take r.size) x):Sa r F h (some ⟨g,0,none⟩) n K xs:=by
 refine ⟨hl,.inr ⟨_,_,rfl⟩,fun _=>⟨g,0,rfl,hF,hg,fun k x hk=>⟨_,fun j u hu=>?_,hx k x hk⟩⟩⟩
 rw [ldC_bk hb]
 rw [List.getElem?_take] at hu
 split at hu
 ·rwa [List.getElem?_drop,← Nat.zero_add (k * r.size+j)] at hu
 ·cases hu
theorem take_one' {α:Type} {l:List α} {k:Nat} {a:α} (h:l[k]? = some a):(l.drop k).take 1 = [a]:=by
 have hk:k<l.length:=(List.getElem?_eq_some_iff.1 h).1
 rw [List.drop_eq_getElem_cons hk]
 simp [(List.getElem?_eq_some_iff.1 h).2]
theorem Sa.of_ints {xs:List Int} {g:Nat} {e:TypeId} {f:Bool} {k:IntKind} (hb:h.get g=some (.cells (xs.map (Value.int k)) e f)) (hl:xs.length=n) (hF:F g) (hg:g<h.next):Sa (Rc.int k) F h (some ⟨g,0,none⟩) n K xs:=
 Sa.of_bk hb hl hF hg fun i x hx=>by
  show (((xs.map (Value.int k)).drop (i * 1)).take 1)=_
  rw [Nat.mul_one]
  exact take_one' (by simp [hx])
end
def tyB (P:Program) (e:TypeId) (size bytes:Nat):Bool:=
 match P.info? e with
 | some i=>Nat.beq i.size size && Nat.beq i.bytes bytes && !(Nat.beq i.size 0) && Nat.blt i.bytes 1000000 && zeroFits i
 | none=>false
theorem rep_one (z:Value) (n:Nat):rep n [z]=List.replicate n z:=by
 induction n with
 | zero=>rfl
 | succ n ih=>
  show [z] ++ rep n [z]=_
  rw [ih]; rfl
section
variable {P:Program} {h h':AH} {e:TypeId} {size bytes n m K L:Nat} {A B:Option Addr} {cells old:List Value}
theorem firstOf_cells (hl:cells.length=m * size) (hc:0<m→∃ b o,B=some ⟨b,o,none⟩∧∀ j u,cells[j]? = some u→ldC h b (o+j)=some u):firstOf h size m (.slice B m L)=some cells:=by
 unfold firstOf
 rcases Nat.eq_zero_or_pos m with h0 | h0
 ·subst h0
  have:cells = []:=List.eq_nil_of_length_eq_zero (by simpa using hl)
  subst this
  cases B with
  | none=>rfl
  | some a=>simp
 ·obtain ⟨b,o,rfl,hc'⟩:=hc h0
  simp only
  rcases Nat.eq_zero_or_pos (m * size) with h1 | h1
  ·have:cells = []:=List.eq_nil_of_length_eq_zero (by omega)
   subst this
   rw [h1]; rfl
  ·have hb:Nat.beq (m * size) 0=false:=by
    cases hb:Nat.beq (m * size) 0 with
    | false=>rfl
    | true=>have:=beq_eq hb; omega
   rw [hb]
   simp only [cond_false]
   have:=ldN_of (h:=h) (b:=b) (o:=o) hl h1 hc'
   unfold ldN at this
   unfold rowAt
   cases hca:cellsAt h b with
   | none=>rw [hca] at this; cases this
   | some t=>rw [hca] at this; exact this
theorem tyB_parts (hT:tyB P e size bytes=true):∃ i,P.info? e=some i∧i.size=size∧i.bytes=bytes∧0<size∧bytes<1000000∧Nat.beq i.size 0=false∧Nat.blt i.bytes 1000000=true∧zeroFits i=true:=by
 unfold tyB at hT
 cases hi:P.info? e with
 | none=>rw [hi] at hT; cases hT
 | some i=>
  rw [hi] at hT
  simp only [Bool.and_eq_true,Bool.not_eq_true'] at hT
  obtain ⟨⟨⟨⟨h1,h2⟩,h3⟩,h4⟩,h5⟩:=hT
  have e1:=beq_eq h1
  have e2:=beq_eq h2
  refine ⟨i,rfl,e1,e2,?_,?_,h3,h4,h5⟩
  ·rcases Nat.eq_zero_or_pos size with h0 | h0
   ·rw [e1,h0] at h3; cases h3
   ·exact h0
  ·rw [← e2]; exact Nat.le_of_ble_eq_true h4
theorem appK_eq {i:TypeInfo} (h1:i.size=size) (h2:i.bytes=bytes) (h6:Nat.beq i.size 0=false) (h7:Nat.blt i.bytes 1000000=true) (h8:zeroFits i=true) (hl:cells.length=m * size) (hf:∀ u∈cells,flat u=true) (hb:(n+m) * bytes<70000000000000) (hn:n+m<70000000000000) :
  appK h e i A n K m cells=cond (Nat.ble (n+m) (K / 2)) (appIn h i.size A n K m cells) (appOut h e i.size A n K m cells):=by
 unfold appK
 have b1:Nat.blt ((n+m) * i.bytes) 70000000000000=true:=by rw [h2]; exact Nat.ble_eq_true_of_le hb
 have b2:Nat.blt (n+m) 70000000000000=true:=Nat.ble_eq_true_of_le hn
 have b3:Nat.beq cells.length (m * i.size)=true:=by rw [h1,hl]; exact Nat.beq_refl _
 rw [allL_ofA hf,b1,b2,b3,h6,h7,h8]
 rfl
theorem lApp_eq (hT:tyB P e size bytes=true) (hl:cells.length=m * size) (hf:∀ u∈cells,flat u=true) (hc:0<m→∃ b o,B=some ⟨b,o,none⟩∧∀ j u,cells[j]? = some u→ldC h b (o+j)=some u) (hb:(n+m) * bytes<70000000000000) (hn:n+m<70000000000000) :
  lAppend P h (some (.slice e)) (some (.slice e)) (.slice A n K) (.slice B m L)=cond (Nat.ble (n+m) (K / 2)) (appIn h size A n K m cells) (appOut h e size A n K m cells):=by
 obtain ⟨i,hi,h1,h2,h3,h4,h6,h7,h8⟩:=tyB_parts hT
 have hx:=firstOf_cells (L:=L) hl hc
 unfold lAppend
 simp only [hi]
 have hsrc:appSrc h i.size (.slice B m L)=some (m,cells):=by
  unfold appSrc
  show (match firstOf h i.size m (.slice B m L) with | some l=>some (m,l) | none=>none)=_
  rw [h1,hx]
 show appendA i e h (.slice A n K) (appSrc h i.size (.slice B m L))=_
 rw [hsrc]
 show appK h e i A n K m cells=_
 rw [appK_eq h1 h2 h6 h7 h8 hl hf hb hn,h1]
end
def OwnA {α:Type} (r:Rc α) (h:AH) (base:Nat) (e:TypeId) (A:Option Addr) (n K:Nat) (xs:List α):Prop:=
 xs.length=n∧((A=none∧n=0∧K=0)∨∃ g cells,A=some ⟨g,0,none⟩∧base≤g∧g<h.next∧h.get g=some (.cells cells e false)∧cells.length=n * r.size∧(K=cl n∨K=2 * n)∧(∀ u∈cells,flat u=true) ∧
  ∀ k x,xs[k]? = some x→r.rel (fun b=>base≤b∧b≠g) h ((cells.drop (k * r.size)).take r.size) x)
def ownB:Option Addr→Nat→Prop
 | some a,b=>b=a.block
 | none,_=>False
section
variable {α:Type} {r:Rc α} {h h':AH} {base:Nat} {e:TypeId} {A:Option Addr} {n K:Nat} {xs:List α}
theorem OwnA.nil (r:Rc α) (h:AH) (base:Nat) (e:TypeId):OwnA r h base e none 0 0 []:=⟨rfl,.inl ⟨rfl,rfl,rfl⟩⟩
theorem OwnA.len (o:OwnA r h base e A n K xs):xs.length=n:=o.1
theorem OwnA.lt (o:OwnA r h base e A n K xs) {b:Nat} (hb:ownB A b):base≤b∧b<h.next:=by
 rcases o.2 with ⟨rfl,_,_⟩ | ⟨g,cells,rfl,h1,h2,_⟩
 ·exact hb.elim
 ·have:b=g:=hb; subst this; exact ⟨h1,h2⟩
theorem OwnA.keep (o:OwnA r h base e A n K xs) (hk:∀ b,base≤b→b<h.next→h'.get b=h.get b) (hn:h.next≤h'.next):OwnA r h' base e A n K xs:=by
 obtain ⟨hl,o⟩:=o
 refine ⟨hl,?_⟩
 rcases o with o | ⟨g,cells,rfl,h1,h2,h3,h4,h5,h6,h7⟩
 ·exact .inl o
 ·exact .inr ⟨g,cells,rfl,h1,Nat.lt_of_lt_of_le h2 hn,(hk g h1 h2).trans h3,h4,h5,h6,fun k x hx=>r.keep (fun b hb hlt=>hk b hb.1 hlt) hn (h7 k x hx)⟩
theorem OwnA.nw (o:OwnA r h base e A n K xs) (a:Nw h h'):OwnA r h' base e A n K xs:=o.keep (fun b _ hb=>a.get b hb) a.next
theorem OwnA.off (o:OwnA r h base e A n K xs) {S:Nat→Prop} (a:Mt S h h') (hS:∀ b,base≤b→b<h.next→¬ S b):OwnA r h' base e A n K xs:=o.keep (fun b h1 hb=>a.get b hb (hS b h1 hb)) a.next
theorem OwnA.sa (o:OwnA r h base e A n K xs):Sa r (fun b=>base≤b) h A n K xs:=by
 obtain ⟨hl,o⟩:=o
 rcases o with ⟨rfl,rfl,rfl⟩ | ⟨g,cells,rfl,h1,h2,h3,h4,h5,h6,h7⟩
 ·exact ⟨hl,.inl ⟨rfl,rfl,rfl⟩,fun h=>absurd h (by omega)⟩
 ·exact Sa.of_bk h3 hl h1 h2 fun k x hx=>r.mono (fun b hb _=>hb.1) (h7 k x hx)
theorem OwnA.spot (o:OwnA r h base e A n K xs):EqOk (.slice A n K):=by
 rcases o.2 with ⟨rfl,_,_⟩ | ⟨g,cells,rfl,_⟩
 ·trivial
 ·rfl
theorem OwnA.lit {g:Nat} {cells:List Value} (hg:h.get g=some (.cells cells e false)) (h1:base≤g) (h2:g<h.next) (hl:xs.length=n) (h4:cells.length=n * r.size) (hf:∀ u∈cells,flat u=true) (hx:∀ k x,xs[k]? = some x→r.rel (fun b=>base≤b∧b≠g) h ((cells.drop (k * r.size)).take r.size) x):OwnA r h base e (some ⟨g,0,none⟩) n (2 * n) xs:=
 ⟨hl,.inr ⟨g,cells,rfl,h1,h2,hg,h4,.inr rfl,hf,hx⟩⟩
variable {P:Program} {bytes:Nat}
theorem app_ownZ (hT:tyB P e r.size bytes=true) (o:OwnA r h base e A n K xs) {F:Nat→Prop} {B:Option Addr} {m L:Nat} {zs:List α} (hz:Sz r F h B m L zs) (hF:∀ cs x,r.rel F h cs x→r.rel (fun b=>base≤b∧¬ ownB A b) h cs x) (hb:(n+m) * bytes<70000000000000) (hn:n+m<70000000000000) (hbase:base≤h.next) :
  ∃ A' K' h',lAppend P h (some (.slice e)) (some (.slice e)) (.slice A n K) (.slice B m L)=some (.slice A' (n+m) K',h')∧OwnA r h' base e A' (n+m) K' (xs ++ zs)∧Mt (ownB A) h h'∧(∀ b,ownB A' b→ownB A b∨h.next≤b):=by
 obtain ⟨hl,ho⟩:=o
 rcases Nat.eq_zero_or_pos m with h0 | h0
 ·subst h0
  have hzs:zs = []:=List.eq_nil_of_length_eq_zero hz.len
  subst hzs
  have hap:=lApp_eq (P:=P) (h:=h) (A:=A) (K:=K) (L:=L) (B:=B) (n:=n) (m:=0) (cells:=[]) hT (by simp) (by simp) (fun h=>absurd h (by omega)) hb hn
  rw [List.append_nil]
  have hle:n≤K / 2:=by
   rcases ho with ⟨_,h1,h2⟩ | ⟨g,cells,_,_,_,_,_,hK,_⟩
   ·omega
   ·rcases hK with hK | hK
    ·unfold cl at hK; omega
    ·omega
  have hble:Nat.ble (n+0) (K / 2)=true:=Nat.ble_eq_true_of_le hle
  refine ⟨A,K,h,?_,⟨hl,ho⟩,Mt.refl _ _,fun b hb=>.inl hb⟩
  rw [hap,hble]
  simp only [cond_true]
  unfold appIn
  rcases ho with ⟨rfl,rfl,rfl⟩ | ⟨g,cells,rfl,_⟩
  ·rfl
  ·rfl
 ·obtain ⟨b,ob,cells,rfl,hFb,hblt,hcl,hcc,hcf,hcr⟩:=hz.cells h0
  have hap:=lApp_eq (P:=P) (h:=h) (A:=A) (K:=K) (L:=L) (B:=some ⟨b,ob,none⟩) (n:=n) (m:=m) (cells:=cells) hT hcl hcf (fun _=>⟨b,ob,rfl,hcc⟩) hb hn
  have hnle:Nat.ble (n+m) (K / 2)=false:=by
   have:¬ n+m≤K / 2:=by
    rcases ho with ⟨_,h1,h2⟩ | ⟨g,cells,_,_,_,_,_,hK,_⟩
    ·omega
    ·rcases hK with hK | hK
     ·unfold cl at hK; omega
     ·omega
   cases hb:Nat.ble (n+m) (K / 2) with
   | false=>rfl
   | true=>exact absurd (Nat.le_of_ble_eq_true hb) this
  rw [hnle] at hap
  simp only [cond_false] at hap
  rcases ho with ⟨rfl,rfl,rfl⟩ | ⟨g,old,rfl,g1,g2,g3,g4,gK,g5,g6⟩
  ·have hout:appOut h e r.size none 0 0 m cells=some (asSl m (cl m) h.next,h.new (.cells cells e false)):=rfl
   have hxs:xs = []:=List.eq_nil_of_length_eq_zero hl
   subst hxs
   rw [hout] at hap
   obtain ⟨k1,k2,k3⟩:=news (h:=h) (ao:=.cells cells e false) rfl
   refine ⟨some ⟨h.next,0,none⟩,cl (0+m),h.new (.cells cells e false),by rw [hap,Nat.zero_add]; rfl,⟨by rw [List.nil_append,hz.len,Nat.zero_add],.inr ⟨h.next,cells,rfl,hbase,by rw [k3]; omega,k2,by rw [Nat.zero_add]; exact hcl,.inl rfl,hcf,fun k x hx=>?_⟩⟩,.of k1,fun b hb=>.inr (by have:b=h.next:=hb; omega)⟩
   have h9:=hF _ _ (hcr k x hx)
   have q1:r.rel (fun c=>base≤c∧c<h.next) h ((cells.drop (k * r.size)).take r.size) x:=r.mono (fun c hc hlt=>⟨hc.1,hlt⟩) h9
   exact r.mono (fun c hc _=>⟨hc.1,by omega⟩) (r.keep (fun c hc hlt=>k1.get c hlt) k1.next q1)
  ·have hcut:cutL old 0 (n * r.size)=some old:=by
    rw [cutL_ok (by omega)]
    simp [← g4]
   have hcell:cellsAt h g=some (old,e,false):=by unfold cellsAt; rw [g3]
   obtain ⟨h2,hh2,hget⟩:∃ h2,appOut h e r.size (some ⟨g,0,none⟩) n K m cells=some (asSl (n+m) (cl (n+m)) h.next,h2.new (.cells (old ++ cells) e false))∧(h2=h∨h2=h.del g):=by
    unfold appOut
    simp only [hcell,hcut]
    cases hpar:Nat.beq (K % 2) 0 with
    | true=>exact ⟨h,rfl,.inl rfl⟩
    | false=>
     refine ⟨h.del g,?_,.inr rfl⟩
     simp only [cond_false,Nat.beq_refl,Bool.not_false,Bool.and_self,cond_true]
   have hn2:h2.next=h.next:=by rcases hget with rfl | rfl <;> rfl
   have hg2:∀ c,c≠g→h2.get c=h.get c:=fun c hc=>by
    rcases hget with rfl | rfl
    ·rfl
    ·rw [get_del,if_neg hc]
   rw [hh2] at hap
   have hgn:∀ c,c≠g→c<h.next→(h2.new (.cells (old ++ cells) e false)).get c=h.get c:=fun c hc hlt=>by
    rw [get_new,if_neg (by omega)]; exact hg2 c hc
   refine ⟨some ⟨h.next,0,none⟩,cl (n+m),_,hap,⟨by rw [List.length_append,hl,hz.len],.inr ⟨h.next,old ++ cells,rfl,hbase,by rw [next_new]; omega,by rw [get_new,hn2,if_pos rfl],by rw [List.length_append,g4,hcl,Nat.add_mul],.inl rfl,fun u hu=>?_,fun k x hx=>?_⟩⟩,⟨by rw [next_new]; omega,fun c hc hs=>hgn c (fun e=>hs e) hc⟩,fun c hc=>.inr (by have:c=h.next:=hc; omega)⟩
   ·rcases List.mem_append.1 hu with hu | hu
    ·exact g5 u hu
    ·exact hcf u hu
   ·have turn:∀ {G:Nat→Prop} {cs:List Value} {x:α},(∀ c,G c→c<h.next→base≤c∧c≠g)→r.rel G h cs x→r.rel (fun c=>base≤c∧c≠h.next) (h2.new (.cells (old ++ cells) e false)) cs x:=by
     intro G cs x hG hr
     have q1:r.rel (fun c=>(base≤c∧c≠g)∧c<h.next) h cs x:=r.mono (fun c hc hlt=>⟨hG c hc hlt,hlt⟩) hr
     have q2:=r.keep (h':=h2.new (.cells (old ++ cells) e false)) (fun c hc hlt=>hgn c hc.1.2 hlt) (by rw [next_new]; omega) q1
     exact r.mono (fun c hc _=>⟨hc.1.1,by omega⟩) q2
    have hsz:∀ j,j<n→j * r.size+r.size≤old.length:=fun j hj=>by
     rw [g4,← Nat.succ_mul]
     exact Nat.mul_le_mul_right _ hj
    rw [List.getElem?_append] at hx
    split at hx
    ·rename_i hlt
     have h4:=hsz k (by omega)
     rw [List.drop_append_of_le_length (by omega),List.take_append_of_le_length (by simp; omega)]
     exact turn (fun c hc _=>hc) (g6 k x hx)
    ·rename_i hge
     have h5:k * r.size=old.length+(k - n) * r.size:=by
      rw [g4,← Nat.add_mul,Nat.add_sub_cancel' (by omega)]
     rw [h5,List.drop_append]
     have h6:List.drop (old.length+(k - n) * r.size) old = []:=List.drop_eq_nil_of_le (by omega)
     rw [h6,List.nil_append,Nat.add_sub_cancel_left]
     exact turn (fun c hc _=>⟨hc.1,fun e=>hc.2 e⟩) (hF _ _ (hcr (k - n) x (by rw [← hl]; exact hx)))
theorem app_own (hT:tyB P e r.size bytes=true) (o:OwnA r h base e A n K xs) {F:Nat→Prop} {B:Option Addr} {m L:Nat} {zs:List α} (hz:Sa r F h B m L zs) (hF:∀ cs x,r.rel F h cs x→r.rel (fun b=>base≤b∧¬ ownB A b) h cs x) (hb:(n+m) * bytes<70000000000000) (hn:n+m<70000000000000) (hbase:base≤h.next) :
  ∃ A' K' h',lAppend P h (some (.slice e)) (some (.slice e)) (.slice A n K) (.slice B m L)=some (.slice A' (n+m) K',h')∧OwnA r h' base e A' (n+m) K' (xs ++ zs)∧Mt (ownB A) h h'∧(∀ b,ownB A' b→ownB A b∨h.next≤b):=app_ownZ hT o hz.z hF hb hn hbase
end
end Eva
end
section
open Go Go.RowKit
namespace Eva
def OwnP {α:Type} (r:Rc α) (h:AH) (D:Nat→Prop) (e:TypeId) (A:Option Addr) (n K:Nat) (xs:List α):Prop:=
 xs.length=n∧((A=none∧n=0∧K=0)∨∃ g cells,A=some ⟨g,0,none⟩∧D g∧g<h.next∧h.get g=some (.cells cells e false)∧cells.length=n * r.size∧(K=cl n∨K=2 * n)∧(∀ u∈cells,flat u=true) ∧
  ∀ k x,xs[k]? = some x→r.rel (fun b=>D b∧b≠g) h ((cells.drop (k * r.size)).take r.size) x)
section
variable {α:Type} {r:Rc α} {h h':AH} {D:Nat→Prop} {e:TypeId} {A:Option Addr} {n K:Nat} {xs:List α}
theorem OwnP.nil (r:Rc α) (h:AH) (D:Nat→Prop) (e:TypeId):OwnP r h D e none 0 0 []:=⟨rfl,.inl ⟨rfl,rfl,rfl⟩⟩
theorem OwnP.len (o:OwnP r h D e A n K xs):xs.length=n:=o.1
theorem OwnP.lt (o:OwnP r h D e A n K xs) {b:Nat} (hb:ownB A b):D b∧b<h.next:=by
 rcases o.2 with ⟨rfl,_,_⟩ | ⟨g,cells,rfl,h1,h2,_⟩
 ·exact hb.elim
 ·have:b=g:=hb; subst this; exact ⟨h1,h2⟩
theorem OwnP.keep (o:OwnP r h D e A n K xs) (hk:∀ b,D b→b<h.next→h'.get b=h.get b) (hn:h.next≤h'.next):OwnP r h' D e A n K xs:=by
 obtain ⟨hl,o⟩:=o
 refine ⟨hl,?_⟩
 rcases o with o | ⟨g,cells,rfl,h1,h2,h3,h4,h5,h6,h7⟩
 ·exact .inl o
 ·exact .inr ⟨g,cells,rfl,h1,Nat.lt_of_lt_of_le h2 hn,(hk g h1 h2).trans h3,h4,h5,h6,fun k x hx=>r.keep (fun b hb hlt=>hk b hb.1 hlt) hn (h7 k x hx)⟩
theorem OwnP.nw (o:OwnP r h D e A n K xs) (a:Nw h h'):OwnP r h' D e A n K xs:=o.keep (fun b _ hb=>a.get b hb) a.next
theorem OwnP.off (o:OwnP r h D e A n K xs) {S:Nat→Prop} (a:Mt S h h') (hS:∀ b,D b→b<h.next→¬ S b):OwnP r h' D e A n K xs:=o.keep (fun b h1 hb=>a.get b hb (hS b h1 hb)) a.next
theorem OwnP.sa (o:OwnP r h D e A n K xs):Sa r D h A n K xs:=by
 obtain ⟨hl,o⟩:=o
 rcases o with ⟨rfl,rfl,rfl⟩ | ⟨g,cells,rfl,h1,h2,h3,h4,h5,h6,h7⟩
 ·exact ⟨hl,.inl ⟨rfl,rfl,rfl⟩,fun h=>absurd h (by omega)⟩
 ·exact Sa.of_bk h3 hl h1 h2 fun k x hx=>r.mono (fun b hb _=>hb.1) (h7 k x hx)
theorem OwnP.spot (o:OwnP r h D e A n K xs):EqOk (.slice A n K):=by
 rcases o.2 with ⟨rfl,_,_⟩ | ⟨g,cells,rfl,_⟩
 ·trivial
 ·rfl
theorem OwnP.lit {g:Nat} {cells:List Value} (hg:h.get g=some (.cells cells e false)) (h1:D g) (h2:g<h.next) (hl:xs.length=n) (h4:cells.length=n * r.size) (hf:∀ u∈cells,flat u=true) (hx:∀ k x,xs[k]? = some x→r.rel (fun b=>D b∧b≠g) h ((cells.drop (k * r.size)).take r.size) x):OwnP r h D e (some ⟨g,0,none⟩) n (2 * n) xs:=
 ⟨hl,.inr ⟨g,cells,rfl,h1,h2,hg,h4,.inr rfl,hf,hx⟩⟩
variable {P:Program} {bytes:Nat}
theorem app_pZ (hT:tyB P e r.size bytes=true) (o:OwnP r h D e A n K xs) {F:Nat→Prop} {B:Option Addr} {m L:Nat} {zs:List α} (hz:Sz r F h B m L zs) (hF:∀ cs x,r.rel F h cs x→r.rel (fun b=>D b∧¬ ownB A b) h cs x) (hb:(n+m) * bytes<70000000000000) (hn:n+m<70000000000000) (hbase:D h.next) :
  ∃ A' K' h',lAppend P h (some (.slice e)) (some (.slice e)) (.slice A n K) (.slice B m L)=some (.slice A' (n+m) K',h')∧OwnP r h' D e A' (n+m) K' (xs ++ zs)∧Mt (ownB A) h h'∧(∀ b,ownB A' b→ownB A b∨h.next≤b):=by
 obtain ⟨hl,ho⟩:=o
 rcases Nat.eq_zero_or_pos m with h0 | h0
 ·subst h0
  have hzs:zs = []:=List.eq_nil_of_length_eq_zero hz.len
  subst hzs
  have hap:=lApp_eq (P:=P) (h:=h) (A:=A) (K:=K) (L:=L) (B:=B) (n:=n) (m:=0) (cells:=[]) hT (by simp) (by simp) (fun h=>absurd h (by omega)) hb hn
  rw [List.append_nil]
  have hle:n≤K / 2:=by
   rcases ho with ⟨_,h1,h2⟩ | ⟨g,cells,_,_,_,_,_,hK,_⟩
   ·omega
   ·rcases hK with hK | hK
    ·unfold cl at hK; omega
    ·omega
  have hble:Nat.ble (n+0) (K / 2)=true:=Nat.ble_eq_true_of_le hle
  refine ⟨A,K,h,?_,⟨hl,ho⟩,Mt.refl _ _,fun b hb=>.inl hb⟩
  rw [hap,hble]
  simp only [cond_true]
  unfold appIn
  rcases ho with ⟨rfl,rfl,rfl⟩ | ⟨g,cells,rfl,_⟩
  ·rfl
  ·rfl
 ·obtain ⟨b,ob,cells,rfl,hFb,hblt,hcl,hcc,hcf,hcr⟩:=hz.cells h0
  have hap:=lApp_eq (P:=P) (h:=h) (A:=A) (K:=K) (L:=L) (B:=some ⟨b,ob,none⟩) (n:=n) (m:=m) (cells:=cells) hT hcl hcf (fun _=>⟨b,ob,rfl,hcc⟩) hb hn
  have hnle:Nat.ble (n+m) (K / 2)=false:=by
   have:¬ n+m≤K / 2:=by
    rcases ho with ⟨_,h1,h2⟩ | ⟨g,cells,_,_,_,_,_,hK,_⟩
    ·omega
    ·rcases hK with hK | hK
     ·unfold cl at hK; omega
     ·omega
   cases hb:Nat.ble (n+m) (K / 2) with
   | false=>rfl
   | true=>exact absurd (Nat.le_of_ble_eq_true hb) this
  rw [hnle] at hap
  simp only [cond_false] at hap
  rcases ho with ⟨rfl,rfl,rfl⟩ | ⟨g,old,rfl,g1,g2,g3,g4,gK,g5,g6⟩
  ·have hout:appOut h e r.size none 0 0 m cells=some (asSl m (cl m) h.next,h.new (.cells cells e false)):=rfl
   have hxs:xs = []:=List.eq_nil_of_length_eq_zero hl
   subst hxs
   rw [hout] at hap
   obtain ⟨k1,k2,k3⟩:=news (h:=h) (ao:=.cells cells e false) rfl
   refine ⟨some ⟨h.next,0,none⟩,cl (0+m),h.new (.cells cells e false),by rw [hap,Nat.zero_add]; rfl,⟨by rw [List.nil_append,hz.len,Nat.zero_add],.inr ⟨h.next,cells,rfl,hbase,by rw [k3]; omega,k2,by rw [Nat.zero_add]; exact hcl,.inl rfl,hcf,fun k x hx=>?_⟩⟩,.of k1,fun b hb=>.inr (by have:b=h.next:=hb; omega)⟩
   have h9:=hF _ _ (hcr k x hx)
   have q1:r.rel (fun c=>D c∧c<h.next) h ((cells.drop (k * r.size)).take r.size) x:=r.mono (fun c hc hlt=>⟨hc.1,hlt⟩) h9
   exact r.mono (fun c hc _=>⟨hc.1,by omega⟩) (r.keep (fun c hc hlt=>k1.get c hlt) k1.next q1)
  ·have hcut:cutL old 0 (n * r.size)=some old:=by
    rw [cutL_ok (by omega)]
    simp [← g4]
   have hcell:cellsAt h g=some (old,e,false):=by unfold cellsAt; rw [g3]
   obtain ⟨h2,hh2,hget⟩:∃ h2,appOut h e r.size (some ⟨g,0,none⟩) n K m cells=some (asSl (n+m) (cl (n+m)) h.next,h2.new (.cells (old ++ cells) e false))∧(h2=h∨h2=h.del g):=by
    unfold appOut
    simp only [hcell,hcut]
    cases hpar:Nat.beq (K % 2) 0 with
    | true=>exact ⟨h,rfl,.inl rfl⟩
    | false=>
     refine ⟨h.del g,?_,.inr rfl⟩
     simp only [cond_false,Nat.beq_refl,Bool.not_false,Bool.and_self,cond_true]
   have hn2:h2.next=h.next:=by rcases hget with rfl | rfl <;> rfl
   have hg2:∀ c,c≠g→h2.get c=h.get c:=fun c hc=>by
    rcases hget with rfl | rfl
    ·rfl
    ·rw [get_del,if_neg hc]
   rw [hh2] at hap
   have hgn:∀ c,c≠g→c<h.next→(h2.new (.cells (old ++ cells) e false)).get c=h.get c:=fun c hc hlt=>by
    rw [get_new,if_neg (by omega)]; exact hg2 c hc
   refine ⟨some ⟨h.next,0,none⟩,cl (n+m),_,hap,⟨by rw [List.length_append,hl,hz.len],.inr ⟨h.next,old ++ cells,rfl,hbase,by rw [next_new]; omega,by rw [get_new,hn2,if_pos rfl],by rw [List.length_append,g4,hcl,Nat.add_mul],.inl rfl,fun u hu=>?_,fun k x hx=>?_⟩⟩,⟨by rw [next_new]; omega,fun c hc hs=>hgn c (fun e=>hs e) hc⟩,fun c hc=>.inr (by have:c=h.next:=hc; omega)⟩
   ·rcases List.mem_append.1 hu with hu | hu
    ·exact g5 u hu
    ·exact hcf u hu
   ·have turn:∀ {G:Nat→Prop} {cs:List Value} {x:α},(∀ c,G c→c<h.next→D c∧c≠g)→r.rel G h cs x→r.rel (fun c=>D c∧c≠h.next) (h2.new (.cells (old ++ cells) e false)) cs x:=by
     intro G cs x hG hr
     have q1:r.rel (fun c=>(D c∧c≠g)∧c<h.next) h cs x:=r.mono (fun c hc hlt=>⟨hG c hc hlt,hlt⟩) hr
     have q2:=r.keep (h':=h2.new (.cells (old ++ cells) e false)) (fun c hc hlt=>hgn c hc.1.2 hlt) (by rw [next_new]; omega) q1
     exact r.mono (fun c hc _=>⟨hc.1.1,by omega⟩) q2
    have hsz:∀ j,j<n→j * r.size+r.size≤old.length:=fun j hj=>by
     rw [g4,← Nat.succ_mul]
     exact Nat.mul_le_mul_right _ hj
    rw [List.getElem?_append] at hx
    split at hx
    ·rename_i hlt
     have h4:=hsz k (by omega)
     rw [List.drop_append_of_le_length (by omega),List.take_append_of_le_length (by simp; omega)]
     exact turn (fun c hc _=>hc) (g6 k x hx)
    ·rename_i hge
     have h5:k * r.size=old.length+(k - n) * r.size:=by
      rw [g4,← Nat.add_mul,Nat.add_sub_cancel' (by omega)]
     rw [h5,List.drop_append]
     have h6:List.drop (old.length+(k - n) * r.size) old = []:=List.drop_eq_nil_of_le (by omega)
     rw [h6,List.nil_append,Nat.add_sub_cancel_left]
     exact turn (fun c hc _=>⟨hc.1,fun e=>hc.2 e⟩) (hF _ _ (hcr (k - n) x (by rw [← hl]; exact hx)))
end
section
variable {α:Type} {r:Rc α} {h h':AH} {D D':Nat→Prop} {e:TypeId} {A:Option Addr} {n K:Nat} {xs:List α} {P:Program} {bytes:Nat}
theorem OwnP.mono (o:OwnP r h D e A n K xs) (hD:∀ b,D b→b<h.next→D' b):OwnP r h D' e A n K xs:=by
 obtain ⟨hl,o⟩:=o
 refine ⟨hl,?_⟩
 rcases o with o | ⟨g,cells,rfl,h1,h2,h3,h4,h5,h6,h7⟩
 ·exact .inl o
 ·exact .inr ⟨g,cells,rfl,hD g h1 h2,h2,h3,h4,h5,h6,fun k x hx=>r.mono (fun b hb hlt=>⟨hD b hb.1 hlt,hb.2⟩) (h7 k x hx)⟩
def Free (r:Rc α):Prop:=∀ {F G:Nat→Prop} {h h':AH} {cs:List Value} {x:α},r.rel F h cs x→r.rel G h' cs x
theorem OwnP.lone (hr:Free r) (o:OwnP r h D e A n K xs):OwnP r h (ownB A) e A n K xs:=by
 obtain ⟨hl,o⟩:=o
 refine ⟨hl,?_⟩
 rcases o with o | ⟨g,cells,rfl,h1,h2,h3,h4,h5,h6,h7⟩
 ·exact .inl o
 ·exact .inr ⟨g,cells,rfl,rfl,h2,h3,h4,h5,h6,fun k x hx=>hr (h7 k x hx)⟩
theorem OwnP.own (o:OwnP r h D e A n K xs) {b:Nat} (hb:ownB A b):b<h.next:=(o.lt hb).2
theorem app_row (hr:Free r) (hT:tyB P e r.size bytes=true) (o:OwnP r h (ownB A) e A n K xs) {F:Nat→Prop} {B:Option Addr} {m L:Nat} {zs:List α} (hz:Sz r F h B m L zs) (hb:(n+m) * bytes<70000000000000) (hn:n+m<70000000000000) :
  ∃ A' K' h',lAppend P h (some (.slice e)) (some (.slice e)) (.slice A n K) (.slice B m L)=some (.slice A' (n+m) K',h')∧OwnP r h' (ownB A') e A' (n+m) K' (xs ++ zs)∧Mt (ownB A) h h'∧(∀ b,ownB A' b→ownB A b∨(h.next≤b∧b<h'.next)):=by
 obtain ⟨A',K',h',x1,x2,x3,x4⟩:=app_pZ (D:=fun _=>True) hT (o.mono fun _ _ _=>trivial) hz (fun cs x hx=>hr hx) hb hn trivial
 exact ⟨A',K',h',x1,x2.lone hr,x3,fun b hb=>(x4 b hb).imp id fun h=>⟨h,x2.own hb⟩⟩
theorem app_rows (hT:tyB P e r.size bytes=true) (o:OwnP r h D e A n K xs) {F:Nat→Prop} {B:Option Addr} {m L:Nat} {zs:List α} (hz:Sz r F h B m L zs) (hF:∀ b,F b→¬ ownB A b) (hb:(n+m) * bytes<70000000000000) (hn:n+m<70000000000000) :
  ∃ A' K' h',lAppend P h (some (.slice e)) (some (.slice e)) (.slice A n K) (.slice B m L)=some (.slice A' (n+m) K',h')∧OwnP r h' (fun b=>D b∨F b∨b=h.next) e A' (n+m) K' (xs ++ zs)∧Mt (ownB A) h h'∧(∀ b,ownB A' b→ownB A b∨(h.next≤b∧b<h'.next)):=by
 obtain ⟨A',K',h',x1,x2,x3,x4⟩:=app_pZ (D:=fun b=>D b∨F b∨b=h.next) hT (o.mono fun _ hb _=>.inl hb) hz (fun cs x hx=>r.mono (fun b hb _=>⟨.inr (.inl hb),hF b hb⟩) hx) hb hn (.inr (.inr rfl))
 exact ⟨A',K',h',x1,x2,x3,fun b hb=>(x4 b hb).imp id fun h=>⟨h,x2.own hb⟩⟩
theorem Sz.one {F:Nat→Prop} {g L:Nat} {cells:List Value} {x:α} {t:TypeId} {f:Bool} (hg:h.get g=some (.cells cells t f)) (hF:F g) (hlt:g<h.next) (hl:cells.length=r.size) (hx:r.rel F h cells x):Sz r F h (some ⟨g,0,none⟩) 1 L [x]:=
 (Sa.of_bk (r:=r) (xs:=[x]) (n:=1) (K:=L) hg rfl hF hlt fun k y hy=>by
  match k,hy with
  | 0,hy=>
   injection hy with hy
   subst hy
   rw [Nat.zero_mul,List.drop_zero,List.take_of_length_le (by omega)]
   exact hx).z
theorem free_int (k:IntKind):Free (Rc.int k):=fun h=>h
theorem free_pair (k k':IntKind):Free (Rc.pair k k'):=fun h=>h
theorem free_tri (k k' k'':IntKind):Free (Rc.tri k k' k''):=fun h=>h
end
end Eva
end
section
open Go Go.RowKit
namespace Eva
section
variable {F:Nat→Prop} {h:AH} {A:Option Addr} {n K:Nat}
theorem Sz.int {xs:List Int} (hs:Sz cI F h A n K xs) {k:Nat} (hk:k<n):∃ b o x,A=some ⟨b,o,none⟩∧F b∧b<h.next∧xs[k]? = some x∧ldC h b (o+k)=some (.int .i64 x):=by
 obtain ⟨b,o,x,cs,hA,hF,hb,hx,hc,hr⟩:=hs.get hk
 refine ⟨b,o,x,hA,hF,hb,hx,?_⟩
 have hr':cs = [.int .i64 x]:=hr
 have:=hc 0 (.int .i64 x) (by rw [hr']; rfl)
 simpa [Rc.int] using this
theorem Sz.rowZ {α:Type} {r:Rc α} {xs:List (List α)} (hs:Sz (Rc.sliceZ r) F h A n K xs) {k:Nat} (hk:k<n):∃ b o A' n' K' x,A=some ⟨b,o,none⟩∧F b∧b<h.next∧xs[k]? = some x∧ldC h b (o+k)=some (.slice A' n' K')∧Sz r F h A' n' K' x:=by
 obtain ⟨b,o,x,cs,hA,hF,hb,hx,hc,A',n',K',hcs,hs'⟩:=hs.get hk
 refine ⟨b,o,A',n',K',x,hA,hF,hb,hx,?_,hs'⟩
 have:=hc 0 (.slice A' n' K') (by rw [hcs]; rfl)
 simpa [Rc.sliceZ] using this
theorem Sz.tri {xs:List (Int × Int × Int)} (hs:Sz (Rc.tri .i64 .i64 .i64) F h A n K xs) {k:Nat} (hk:k<n):∃ b o x y z,A=some ⟨b,o,none⟩∧F b∧b<h.next∧xs[k]? = some (x,y,z)∧ldC h b (o+k * 3)=some (.int .i64 x)∧ldC h b (o+k * 3+1)=some (.int .i64 y)∧ldC h b (o+k * 3+2)=some (.int .i64 z):=by
 obtain ⟨b,o,x,cs,hA,hF,hb,hx,hc,hr⟩:=hs.get hk
 have hr':cs = [.int .i64 x.1,.int .i64 x.2.1,.int .i64 x.2.2]:=hr
 have h0:=hc 0 (.int .i64 x.1) (by rw [hr']; rfl)
 have h1:=hc 1 (.int .i64 x.2.1) (by rw [hr']; rfl)
 have h2:=hc 2 (.int .i64 x.2.2) (by rw [hr']; rfl)
 exact ⟨b,o,x.1,x.2.1,x.2.2,hA,hF,hb,hx,by simpa [Rc.tri] using h0,by simpa [Rc.tri,Nat.add_assoc] using h1,by simpa [Rc.tri,Nat.add_assoc] using h2⟩
theorem Sz.tableZ {xs:List (Int × Int × List Int)} (hs:Sz Rc.tableZ F h A n K xs) {k:Nat} (hk:k<n):∃ b o x y A' n' K' zs,A=some ⟨b,o,none⟩∧F b∧b<h.next∧xs[k]? = some (x,y,zs)∧ldC h b (o+k * 3)=some (.int .i64 x)∧ldC h b (o+k * 3+1)=some (.int .i64 y)∧ldC h b (o+k * 3+2)=some (.slice A' n' K')∧Sz cI F h A' n' K' zs:=by
 obtain ⟨b,o,x,cs,hA,hF,hb,hx,hc,A',n',K',hr',hs'⟩:=hs.get hk
 have h0:=hc 0 (.int .i64 x.1) (by rw [hr']; rfl)
 have h1:=hc 1 (.int .i64 x.2.1) (by rw [hr']; rfl)
 have h2:=hc 2 (.slice A' n' K') (by rw [hr']; rfl)
 exact ⟨b,o,x.1,x.2.1,A',n',K',x.2.2,hA,hF,hb,hx,by simpa [Rc.tableZ] using h0,by simpa [Rc.tableZ,Nat.add_assoc] using h1,by simpa [Rc.tableZ,Nat.add_assoc] using h2,hs'⟩
end
end Eva
end
section
open Go Go.RowKit
namespace Eva
abbrev cTri:Rc (Int × Int × Int):=Rc.tri .i64 .i64 .i64
abbrev cPr:Rc (Int × Int):=Rc.pair .i64 .i64
theorem wr_ok {x:Int} (h1:-9223372036854775808≤x) (h2:x≤9223372036854775807):IntKind.i64.wrap x=x:=IntWalk.i64_in _ ⟨h1,h2⟩
structure GrA (h:AH) (Fa F:Nat→Prop) (g:Nat) (N:NetD):Prop where
 own:F g∧g<h.next
 verts:∃ A n K,ldC h g 0=some (.slice A n K)∧Sa cTri F h A n K N.vs
 arcs:∃ A n K,ldC h g 1=some (.slice A n K)∧Sa cTri Fa h A n K N.xa
 types:∃ A n K,ldC h g 2=some (.slice A n K)∧Sa Rc.table F h A n K N.ts
 ins:∃ A n K,ldC h g 3=some (.slice A n K)∧Sa cRows F h A n K (N.endsL false)
 outs:∃ A n K,ldC h g 4=some (.slice A n K)∧Sa cRows F h A n K (N.endsL true)
 pls:∃ A n K,ldC h g 5=some (.slice A n K)∧Sa cPr F h A n K N.plL
 ok:N.Ok
 few:N.nv≤1000∧N.na≤1000
section
variable {h h':AH} {Fa F:Nat→Prop} {g:Nat} {N:NetD} {Q:Value→AH→Prop}
theorem GrA.keep (G:GrA h Fa F g N) (hk:∀ b,F b∨Fa b→b<h.next→h'.get b=h.get b) (hn:h.next≤h'.next):GrA h' Fa F g N:=by
 have hc:∀ o,ldC h' g o=ldC h g o:=fun o=>ldC_congr (hk g (.inl G.own.1) G.own.2) o
 have hF:∀ b,F b→b<h.next→h'.get b=h.get b:=fun b h=>hk b (.inl h)
 have hA:∀ b,Fa b→b<h.next→h'.get b=h.get b:=fun b h=>hk b (.inr h)
 refine ⟨⟨G.own.1,Nat.lt_of_lt_of_le G.own.2 hn⟩,?_,?_,?_,?_,?_,?_,G.ok,G.few⟩
 ·obtain ⟨A,n,c,h1,h2⟩:=G.verts; exact ⟨A,n,c,(hc 0).trans h1,h2.keep hF hn⟩
 ·obtain ⟨A,n,c,h1,h2⟩:=G.arcs; exact ⟨A,n,c,(hc 1).trans h1,h2.keep hA hn⟩
 ·obtain ⟨A,n,c,h1,h2⟩:=G.types; exact ⟨A,n,c,(hc 2).trans h1,h2.keep hF hn⟩
 ·obtain ⟨A,n,c,h1,h2⟩:=G.ins; exact ⟨A,n,c,(hc 3).trans h1,h2.keep hF hn⟩
 ·obtain ⟨A,n,c,h1,h2⟩:=G.outs; exact ⟨A,n,c,(hc 4).trans h1,h2.keep hF hn⟩
 ·obtain ⟨A,n,c,h1,h2⟩:=G.pls; exact ⟨A,n,c,(hc 5).trans h1,h2.keep hF hn⟩
theorem GrA.nw (G:GrA h Fa F g N) (a:Nw h h'):GrA h' Fa F g N:=G.keep (fun b _ hb=>a.get b hb) a.next
theorem GrA.off (G:GrA h Fa F g N) {S:Nat→Prop} (a:Mt S h h') (hS:∀ b,F b∨Fa b→¬ S b):GrA h' Fa F g N:=G.keep (fun b hb hlt=>a.get b hlt (hS b hb)) a.next
theorem aArc (G:GrA h Fa F g N) (a:Int) (K:Q (.bool (decide (0≤a∧a<N.na))) h):WC Tryz.prog 76 [.pointer (some ⟨g,0,none⟩),.int .i64 a] h Q:=by
 obtain ⟨A,n,c,c1,s1⟩:=G.arcs
 have hn:N.na=n:=s1.len
 refine w_graph_Graph_arc ⟨fun h1=>?_,fun h1=>?_⟩
 ·repeat (first | refine ⟨_,_,rfl,?_⟩ | refine ⟨_,_,_,(by assumption),?_⟩ | refine ⟨_,(by assumption),?_⟩ | refine ⟨_,rfl,?_⟩ | refine ⟨(by first | assumption | omega),?_⟩ | refine ⟨fun hb=>?_,fun hb=>absurd hb (by omega)⟩ | refine ⟨fun hb=>absurd hb (by omega),fun hb=>?_⟩ | refine ⟨fun _=>?_,fun hb=>Bool.noConfusion hb⟩ | refine ⟨fun hb=>Bool.noConfusion hb,fun _=>?_⟩)
  refine ⟨fun h2=>?_,fun h2=>?_⟩
  ·rwa [show decide (0≤a∧a<(N.na:Int))=true by simp; omega] at K
  ·rwa [show decide (0≤a∧a<(N.na:Int))=false by simp; omega] at K
 ·rwa [show decide (0≤a∧a<(N.na:Int))=false by simp; omega] at K
theorem aArc1 (G:GrA h Fa F g N) {a:Nat} (ha:a<N.na) (K:Q (.bool true) h):WC Tryz.prog 76 [.pointer (some ⟨g,0,none⟩),.int .i64 a] h Q:=
 aArc G a (by rwa [show decide (0≤(a:Int)∧(a:Int)<(N.na:Int))=true by simp; omega])
theorem GrA.arc_ (G:GrA h Fa F g N) {a:Nat} (ha:a<N.na):∃ b o n K,ldC h g 1=some (.slice (some ⟨b,o,none⟩) n K)∧a<n∧b<h.next∧Fa b∧ldC h b (o+a * 3)=some (.int .i64 (N.fr a:Int))∧ldC h b (o+a * 3+1)=some (.int .i64 (N.to a:Int))∧ldC h b (o+a * 3+2)=some (.int .i64 (N.w a)):=by
 obtain ⟨A,n,K,c1,s1⟩:=G.arcs
 have hn:N.na=n:=s1.len
 obtain ⟨b,o,x,y,z,rfl,hF,hb,hx,e0,e1,e2⟩:=s1.tri (k:=a) (by omega)
 rw [N.arc_get ha] at hx
 injection hx with hx
 have h1:x=(N.fr a:Int):=by rw [← (NetD.fr_lt G.ok ha).2,hx]
 have h2:y=(N.to a:Int):=by rw [← (NetD.to_lt G.ok ha).2,hx]
 have h3:z=N.w a:=by simp [NetD.w,ha,hx]
 subst h1 h2 h3
 exact ⟨b,o,n,K,c1,by omega,hb,hF,e0,e1,e2⟩
theorem aFrom (G:GrA h Fa F g N) {a:Nat} (ha:a<N.na) (K:Q (.int .i64 (N.fr a:Int)) h):WC Tryz.prog 37 [.pointer (some ⟨g,0,none⟩),.int .i64 a] h Q:=by
 obtain ⟨b,o,n,c,c1,hn,-,-,e0,e1,e2⟩:=G.arc_ ha
 refine w_graph_Graph_From (aArc1 G ha ?_)
 repeat (first | refine ⟨_,_,rfl,?_⟩ | refine ⟨_,_,_,(by assumption),?_⟩ | refine ⟨_,(by assumption),?_⟩ | refine ⟨_,rfl,?_⟩ | refine ⟨(by first | assumption | omega),?_⟩ | refine ⟨fun hb=>?_,fun hb=>absurd hb (by omega)⟩ | refine ⟨fun hb=>absurd hb (by omega),fun hb=>?_⟩ | refine ⟨fun _=>?_,fun hb=>Bool.noConfusion hb⟩ | refine ⟨fun hb=>Bool.noConfusion hb,fun _=>?_⟩)
 exact K
theorem aTo (G:GrA h Fa F g N) {a:Nat} (ha:a<N.na) (K:Q (.int .i64 (N.to a:Int)) h):WC Tryz.prog 28 [.pointer (some ⟨g,0,none⟩),.int .i64 a] h Q:=by
 obtain ⟨b,o,n,c,c1,hn,-,-,e0,e1,e2⟩:=G.arc_ ha
 refine w_graph_Graph_To (aArc1 G ha ?_)
 repeat (first | refine ⟨_,_,rfl,?_⟩ | refine ⟨_,_,_,(by assumption),?_⟩ | refine ⟨_,(by assumption),?_⟩ | refine ⟨_,rfl,?_⟩ | refine ⟨(by first | assumption | omega),?_⟩ | refine ⟨fun hb=>?_,fun hb=>absurd hb (by omega)⟩ | refine ⟨fun hb=>absurd hb (by omega),fun hb=>?_⟩ | refine ⟨fun _=>?_,fun hb=>Bool.noConfusion hb⟩ | refine ⟨fun hb=>Bool.noConfusion hb,fun _=>?_⟩)
 exact K
theorem aWeight (G:GrA h Fa F g N) {a:Nat} (ha:a<N.na) (K:Q (.int .i64 (N.w a)) h):WC Tryz.prog 36 [.pointer (some ⟨g,0,none⟩),.int .i64 a] h Q:=by
 obtain ⟨b,o,n,c,c1,hn,-,-,e0,e1,e2⟩:=G.arc_ ha
 refine w_graph_Graph_Weight (aArc1 G ha ?_)
 repeat (first | refine ⟨_,_,rfl,?_⟩ | refine ⟨_,_,_,(by assumption),?_⟩ | refine ⟨_,(by assumption),?_⟩ | refine ⟨_,rfl,?_⟩ | refine ⟨(by first | assumption | omega),?_⟩ | refine ⟨fun hb=>?_,fun hb=>absurd hb (by omega)⟩ | refine ⟨fun hb=>absurd hb (by omega),fun hb=>?_⟩ | refine ⟨fun _=>?_,fun hb=>Bool.noConfusion hb⟩ | refine ⟨fun hb=>Bool.noConfusion hb,fun _=>?_⟩)
 exact K
theorem aArcs (G:GrA h Fa F g N) (K:Q (.int .i64 (N.na:Int)) h):WC Tryz.prog 31 [.pointer (some ⟨g,0,none⟩)] h Q:=by
 obtain ⟨A,n,c,c1,s1⟩:=G.arcs
 have hn:N.na=n:=s1.len
 refine w_graph_Graph_Arcs ?_
 repeat (first | refine ⟨_,_,rfl,?_⟩ | refine ⟨_,_,_,(by assumption),?_⟩ | refine ⟨_,(by assumption),?_⟩ | refine ⟨_,rfl,?_⟩ | refine ⟨(by first | assumption | omega),?_⟩ | refine ⟨fun hb=>?_,fun hb=>absurd hb (by omega)⟩ | refine ⟨fun hb=>absurd hb (by omega),fun hb=>?_⟩ | refine ⟨fun _=>?_,fun hb=>Bool.noConfusion hb⟩ | refine ⟨fun hb=>Bool.noConfusion hb,fun _=>?_⟩)
 rw [hn] at K
 exact K
theorem aVerts (G:GrA h Fa F g N) (K:Q (.int .i64 (N.nv:Int)) h):WC Tryz.prog 197 [.pointer (some ⟨g,0,none⟩)] h Q:=by
 obtain ⟨A,n,c,c1,s1⟩:=G.verts
 have hn:N.nv=n:=s1.len
 refine w_graph_Graph_Verts ?_
 repeat (first | refine ⟨_,_,rfl,?_⟩ | refine ⟨_,_,_,(by assumption),?_⟩ | refine ⟨_,(by assumption),?_⟩ | refine ⟨_,rfl,?_⟩ | refine ⟨(by first | assumption | omega),?_⟩ | refine ⟨fun hb=>?_,fun hb=>absurd hb (by omega)⟩ | refine ⟨fun hb=>absurd hb (by omega),fun hb=>?_⟩ | refine ⟨fun _=>?_,fun hb=>Bool.noConfusion hb⟩ | refine ⟨fun hb=>Bool.noConfusion hb,fun _=>?_⟩)
 rw [hn] at K
 exact K
end
end Eva
end
section
open Go Go.RowKit
namespace Eva
theorem tyI8:tyB Tryz.prog 3 1 8=true:=by kernel_rfl
section
variable {h h':AH} {Fa F:Nat→Prop} {g:Nat} {N:NetD} {Q:Value→AH→Prop} {A:Option Addr} {n K:Nat} {xs:List Int}
theorem copyI (hs:Sa cI F h A n K xs) (hn:n≤100000) {B:Option Addr} {L:Nat} {h1:AH} (k1:Nw h h1) (hB:OwnA cI h1 h.next 3 B 0 L []) :
  ∃ A' K' h',lAppend Tryz.prog h1 (some (.slice 3)) (some (.slice 3)) (.slice B 0 L) (.slice A n K)=some (.slice A' n K',h')∧Sa cI (fun b=>h.next≤b) h' A' n K' xs∧Nw h h':=by
 obtain ⟨A',K',h',x1,x2,x3,x4⟩:=app_own (r:=cI) tyI8 hB (hs.nw k1) (fun _ _ h=>h) (by omega) (by omega) k1.next
 refine ⟨A',K',h',by rw [Nat.zero_add] at x1; exact x1,?_,x3.is_nw k1 fun b hb=>(hB.lt hb).1⟩
 have:=x2.sa
 rwa [Nat.zero_add,List.nil_append] at this
theorem aClone (hs:Sa cI F h A n K xs) (hn:n≤100000) (hK:∀ A' K' h',Sa cI (fun b=>h.next≤b) h' A' n K' xs→Nw h h'→Q (.slice A' n K') h'):WC Tryz.prog 55 [.slice A n K] h Q:=by
 refine w_slices_Clone_int_int ⟨fun hA=>?_,fun hA=>?_⟩
 ·obtain ⟨h0,h1⟩:=hs.nil0 hA
  refine ⟨h0,h1,?_⟩
  subst hA h0 h1
  exact hK none 0 h ⟨hs.len,.inl ⟨rfl,rfl,rfl⟩,fun h=>absurd h (by omega)⟩ (Nw.refl _)
 ·obtain ⟨b,o,rfl⟩:=hs.some_ hA
  refine ⟨b,o,rfl,fun h1 e1=>?_⟩
  obtain ⟨k1,g1,z1⟩:=news e1
  obtain ⟨A',K',h',x1,x2,x3⟩:=copyI hs hn k1 (OwnA.lit (r:=cI) (xs:=[]) (n:=0) g1 (Nat.le_refl _) (by omega) rfl rfl (by simp) (by simp))
  exact ⟨A',n,K',h',x1,hK _ _ _ x2 x3⟩
theorem aVert1 (G:GrA h Fa F g N) {v:Nat} (hv:v<N.nv) (K:Q (.bool true) h):WC Tryz.prog 77 [.pointer (some ⟨g,0,none⟩),.int .i64 v] h Q:=by
 obtain ⟨A,n,c,c1,s1⟩:=G.verts
 have hn:N.nv=n:=s1.len
 refine w_graph_Graph_vert ⟨fun h1=>?_,fun h1=>absurd h1 (by omega)⟩
 repeat (first | refine ⟨_,_,rfl,?_⟩ | refine ⟨_,_,_,(by assumption),?_⟩ | refine ⟨_,(by assumption),?_⟩ | refine ⟨_,rfl,?_⟩ | refine ⟨(by first | assumption | omega),?_⟩ | refine ⟨fun hb=>?_,fun hb=>absurd hb (by omega)⟩ | refine ⟨fun hb=>absurd hb (by omega),fun hb=>?_⟩ | refine ⟨fun _=>?_,fun hb=>Bool.noConfusion hb⟩ | refine ⟨fun hb=>Bool.noConfusion hb,fun _=>?_⟩)
 exact K
theorem aOuts (G:GrA h Fa F g N) {v:Nat} (hv:v<N.nv) (hK:∀ A' K' h',Sa cI (fun b=>h.next≤b) h' A' (N.from_ v).length K' (ints (N.from_ v))→Nw h h'→Q (.slice A' (N.from_ v).length K') h'):WC Tryz.prog 33 [.pointer (some ⟨g,0,none⟩),.int .i64 v] h Q:=by
 obtain ⟨A,n,K,c4,s4⟩:=G.outs
 have hn:v<n:=by rw [← s4.len]; simpa [NetD.endsL] using hv
 obtain ⟨b,o,A1,n1,K1,x,rfl,hF,hb,hx,e1,hr⟩:=s4.row hn
 have hxe:x=ints (N.from_ v):=by
  simp [NetD.endsL,hv] at hx
  rw [← hx,NetD.from_ints]; rfl
 subst hxe
 have hl:(N.from_ v).length=n1:=by simpa [ints] using hr.len
 have hl2:n1≤1000:=by
  rw [← hl]
  exact Nat.le_trans (takeN_len _ _) G.few.2
 refine w_graph_Graph_Outs (aVert1 G hv ?_)
 refine ⟨_,rfl,fun _=>?_,fun h=>Bool.noConfusion h⟩
 refine ⟨_,_,rfl,_,_,_,c4,_,rfl,_,_,rfl,hn,_,_,_,e1,?_⟩
 refine aClone hr (by omega) fun A' K' h' k1 k2=>?_
 rw [← hl] at k1 ⊢
 exact ⟨_,_,_,rfl,hK _ _ _ k1 k2⟩
theorem aSides {ins outs:Int} (hi:0≤ins∧ins≤16) (ho:0≤outs∧outs≤16) (K:Q .nilIface h):WC Tryz.prog 147 [.int .i64 ins,.int .i64 outs] h Q:=by
 refine w_turn_sides ⟨fun h=>absurd h (by omega),fun _=>?_⟩
 refine ⟨fun h=>absurd h (by omega),fun _=>?_⟩
 refine ⟨fun h=>absurd h (by omega),fun _=>?_⟩
 exact ⟨fun h=>absurd h (by omega),fun _=>K⟩
theorem aTurnAt {ins outs:Int} {costs:List Int} (hs:Sa cI F h A n K costs) (hok:TableOk ins outs costs) (i o:Nat) (hi16:i≤1000) (ho16:o≤1000) (hK:∀ h',Nw h h'→Q (.int .i64 (tabAt (ins,outs,costs) i o)) h') :
  WC Tryz.prog 78 [.agg #[.int .i64 ins,.int .i64 outs,.slice A n K],.int .i64 i,.int .i64 o] h Q:=by
 have hI:=hok.ins_
 have hO:=hok.outs_
 have hlen:=hok.len
 refine w_turn_At fun h1 e1=>?_
 obtain ⟨k1,g1,z1⟩:=news e1
 have c0:ldC h1 h.next 0=some (.int .i64 ins):=ldC_of g1 rfl
 have c1:ldC h1 h.next 1=some (.int .i64 outs):=ldC_of g1 rfl
 have c2:ldC h1 h.next 2=some (.slice A n K):=ldC_of g1 rfl
 have inf:¬ ((i:Int)<ins∧(o:Int)<outs)→Q (.int .i64 1152921504606846976) h1:=fun hno=>by
  have:=hK h1 k1
  rwa [tabAt,if_neg hno] at this
 refine ⟨fun h=>absurd h (by omega),fun _=>⟨_,c0,fun hb=>inf (by omega),fun hb1=>⟨fun h=>absurd h (by omega),fun _=>⟨_,c1,fun hb=>inf (by omega),fun hb2=>⟨_,c0,_,c1,?_⟩⟩⟩⟩⟩
 refine aSides hI hO ⟨none,rfl,fun _=>?_,fun t u h=>by cases h⟩
 obtain ⟨ins,rfl⟩:=Int.eq_ofNat_of_zero_le hI.1
 obtain ⟨outs,rfl⟩:=Int.eq_ofNat_of_zero_le hO.1
 have h1':i<ins:=by omega
 have h2':o<outs:=by omega
 have hn:n=ins * outs:=by
  have:=hs.len
  have h3:((costs.length:Nat):Int)=((ins * outs:Nat):Int):=by rw [hlen]; simp
  omega
 have hlt:i * outs+o<n:=by rw [hn]; exact pl_lt h1' h2'
 have hmul:i * outs≤1000 * 16:=Nat.mul_le_mul (by omega) (by omega)
 obtain ⟨b,of,x,rfl,hF,hb,hx,e0⟩:=hs.int hlt
 have e0':=(k1.ldC hb (of+(i * outs+o))).trans e0
 obtain ⟨t,ht⟩:∃ t,i * outs=t:=⟨_,rfl⟩
 rw [ht] at hlt hmul e0' hx
 have w1:IntKind.i64.wrap ((i:Int) * (outs:Int))=(t:Int):=by
  rw [← Int.natCast_mul,ht]
  exact wr_ok (by omega) (by omega)
 have w2:IntKind.i64.wrap ((t:Int)+(o:Int))=((t+o:Nat):Int):=by rw [Int.natCast_add]; exact wr_ok (by omega) (by omega)
 refine ⟨_,c1,_,w1,_,w2,_,_,_,c2,fun _=>⟨_,_,_,c2,_,rfl,_,_,rfl,hlt,_,e0',?_⟩,fun h=>absurd h (by omega)⟩
 have:=hK h1 k1
 rwa [tabAt,if_pos (show (i:Int)<(ins:Int)∧(o:Int)<(outs:Int) from ⟨by omega,by omega⟩),show (costs[i * (outs:Int).toNat+o]?)=some x by rw [Int.toNat_natCast,ht]; exact hx] at this
end
end Eva
end
section
open Go Go.RowKit
namespace Eva
theorem box_st {h h1:AH} {z vs:List Value} {t:TypeId} (e1:h1=AH.new h (.cells z t false)) (hl:z.length=vs.length) (hf:∀ v∈vs,flat v=true) :
  ∃ h2,stC h1 h.next 0 vs=some h2∧Nw h h2∧Bk h2 h.next vs t∧h2.next=h.next+1:=by
 obtain ⟨k1,g1,z1⟩:=news e1
 refine ⟨_,stN (e:=t) g1 (by omega) hf,k1.put (Nat.le_refl _) _,?_,z1⟩
 rw [Bk,get_put,if_pos rfl]
 simp [hl]
theorem st_all {h:AH} {b:Nat} {c vs:List Value} {t:TypeId} (hb:Bk h b c t) (hl:c.length=vs.length) (hf:∀ v∈vs,flat v=true) :
  ∃ h2,stC h b 0 vs=some h2∧Bk h2 b vs t∧h2.next=h.next∧∀ b',b'≠b→h2.get b' = h.get b':=by
 refine ⟨_,stN hb (by omega) hf,?_,rfl,fun b' hb'=>by rw [get_put,if_neg hb']⟩
 rw [Bk,get_put,if_pos rfl]
 simp [hl]
theorem st_one {h:AH} {b o:Nat} {c:List Value} {t:TypeId} {v:Value} (hb:Bk h b c t) (ho:o<c.length) (hf:flat v=true) :
  ∃ h2,stC h b o [v]=some h2∧Bk h2 b (c.set o v) t∧h2.next=h.next∧∀ b',b'≠b→h2.get b' = h.get b':=
 ⟨_,st1 hb ho hf,by rw [Bk,get_put,if_pos rfl],rfl,fun b' hb'=>by rw [get_put,if_neg hb']⟩
theorem flat2 {a b:Value} (ha:flat a=true) (hb:flat b=true):∀ v∈[a,b],flat v=true:=by simp [ha,hb]
theorem flat3 {a b c:Value} (ha:flat a=true) (hb:flat b=true) (hc:flat c=true):∀ v∈[a,b,c],flat v=true:=by simp [ha,hb,hc]
theorem ldN2 {h:AH} {b o:Nat} {u v:Value} (h0:ldC h b o=some u) (h1:ldC h b (o+1)=some v):ldN h b o 2=some [u,v]:=
 ldN_of rfl (by omega) fun j x hj=>by
  match j,hj with
  | 0,hj=>injection hj with hj; subst hj; exact h0
  | 1,hj=>injection hj with hj; subst hj; exact h1
theorem ldN3 {h:AH} {b o:Nat} {u v x:Value} (h0:ldC h b o=some u) (h1:ldC h b (o+1)=some v) (h2:ldC h b (o+2)=some x):ldN h b o 3=some [u,v,x]:=
 ldN_of rfl (by omega) fun j y hj=>by
  match j,hj with
  | 0,hj=>injection hj with hj; subst hj; exact h0
  | 1,hj=>injection hj with hj; subst hj; exact h1
  | 2,hj=>injection hj with hj; subst hj; exact h2
section
variable {h h':AH} {Fa F:Nat→Prop} {g:Nat} {N:NetD} {Q:Value→AH→Prop} {A:Option Addr} {n K:Nat}
theorem aTurn (G:GrA h Fa F g N) {a b:Nat} (ha:a<N.na) (hb:b<N.na) (hK:∀ h',Nw h h'→Q (.int .i64 (N.turn a b)) h'):WC Tryz.prog 34 [.pointer (some ⟨g,0,none⟩),.int .i64 a,.int .i64 b] h Q:=by
 obtain ⟨b1,o1,n1,K1,c1,hn1,l1,-,e0,e1,e2⟩:=G.arc_ ha
 obtain ⟨b1',o1',n1',K1',c1',hn1',l1',-,f0,f1,f2⟩:=G.arc_ hb
 refine w_graph_Graph_Turn (aArc1 G ha ⟨_,rfl,fun _=>?_,fun h=>Bool.noConfusion h⟩)
 refine aArc1 G hb ⟨_,rfl,fun _=>?_,fun h=>Bool.noConfusion h⟩
 refine ⟨_,_,rfl,_,_,_,c1,_,rfl,_,_,rfl,hn1,_,e1,_,_,_,c1',_,rfl,_,_,rfl,hn1',_,f0,fun hab=>?_,fun hab=>?_⟩
 ·have hab':N.to a=N.fr b:=by omega
  have hvt:=(NetD.to_lt G.ok ha).1
  obtain ⟨tok,t,vx,t1,t2,t3,t4,t5⟩:=NetD.tab_ok G.ok hvt
  obtain ⟨A0,n0,K0,g0,s0⟩:=G.verts
  obtain ⟨A2,n2,K2,g2,s2⟩:=G.types
  obtain ⟨A5,n5,K5,g5,s5⟩:=G.pls
  have hn0:N.to a<n0:=by rw [← s0.len]; exact hvt
  have hn2:vx.2.2.toNat<n2:=by rw [← s2.len]; omega
  have hn5:n5=N.na:=by rw [← s5.len]; simp [NetD.plL]
  obtain ⟨b0,o0,u1,u2,u3,rfl,-,q0,r2,r3,r4,r5⟩:=s0.tri hn0
  obtain ⟨b2,o2,v1,v2,A',n',K',zs,rfl,-,q2,k2,k3,k4,k5,k6⟩:=s2.table hn2
  obtain ⟨b5,o5,pa,pb,rfl,-,q5,j2,j3,j4⟩:=s5.pair (k:=a) (by omega)
  obtain ⟨b5',o5',pa',pb',hA5,-,q5',i2,i3,i4⟩:=s5.pair (k:=b) (by omega)
  injection hA5 with hA5
  injection hA5 with hA51 hA52
  subst hA51 hA52
  rw [t1] at r2
  injection r2 with r2
  subst r2
  have hu3:(u3.toNat:Int)=u3:=Int.toNat_of_nonneg t4
  simp only at hn2 k2 k3 k4 k5
  have hpa:pa=(N.inPl a:Int):=by simp [NetD.plL,ha] at j2; exact j2.1.symm
  have hpb:pb' = (N.outPl b:Int):=by simp [NetD.plL,hb] at i2; exact i2.2.symm
  have htab:(v1,v2,zs)=N.tab (N.to a):=by
   simp only at t2
   rw [t2] at k2
   injection k2 with k2
   rw [← k2,t3]
  have hi1:N.inPl a≤1000:=Nat.le_trans (ends_len _ _ _) (by have:=G.few.2; omega)
  have ho1:N.outPl b≤1000:=Nat.le_trans (ends_len _ _ _) (by have:=G.few.2; omega)
  subst hpa hpb
  refine ⟨_,_,_,g0,_,_,_,c1,_,_,rfl,hn1,_,e1,_,rfl,_,_,rfl,hn0,_,_,_,ldN3 r3 r4 r5,fun h3 e3=>?_⟩
  obtain ⟨h4,hs4,k4',g4,z4⟩:=box_st (vs:=[.int .i64 u1,.int .i64 u2,.int .i64 u3]) e3 rfl (flat3 rfl rfl rfl)
  have x9:ldC h4 h.next 2=some (.int .i64 u3):=ldC_of g4 rfl
  refine ⟨h4,hs4,_,_,_,(k4'.ldC G.own.2 _).trans g2,_,x9,u3.toNat,hu3.symm,_,_,rfl,hn2,_,_,_,_,_,ldN3 ((k4'.ldC q2 _).trans k3) ((k4'.ldC q2 _).trans k4) ((k4'.ldC q2 _).trans k5),_,_,_,(k4'.ldC G.own.2 _).trans g5,_,_,rfl,by omega,_,(k4'.ldC q5 _).trans j3,_,_,_,(k4'.ldC G.own.2 _).trans g5,_,_,rfl,by omega,_,(k4'.ldC q5 _).trans i4,?_⟩
  refine aTurnAt (k6.nw k4') (by rw [← htab] at tok; exact tok) (N.inPl a) (N.outPl b) hi1 ho1 fun h5 k5'=>⟨_,rfl,?_⟩
  have:=hK h5 (k4'.trans k5')
  rwa [NetD.turn,if_pos ⟨ha,hb,hab'⟩,← htab] at this
 ·have:=hK h (Nw.refl _)
  rwa [NetD.turn,if_neg (fun h=>hab (by rw [h.2.2]))] at this
theorem aHeld (a:Int) (hK:Q (.int .i64 (heldI a)) h):WC Tryz.prog 79 [.int .i64 a] h Q:=by
 refine w_cost_Held ⟨fun h1=>?_,fun h1=>⟨fun h2=>?_,fun h2=>?_⟩⟩
 ·rwa [heldI,if_pos h1] at hK
 ·rwa [heldI,if_neg h1,if_pos h2] at hK
 ·rwa [heldI,if_neg h1,if_neg h2] at hK
theorem aAdd (a b:Int) (hK:Q (.int .i64 (addI a b)) h):WC Tryz.prog 35 [.int .i64 a,.int .i64 b] h Q:=by
 have h1:=heldI_bd a
 have h2:=heldI_bd b
 exact w_cost_Add (aHeld _ ⟨_,rfl,aHeld _ ⟨_,rfl,_,wr_ok (by omega) (by omega),aHeld _ ⟨_,rfl,hK⟩⟩⟩)
theorem aSum {F:Nat→Prop} {l:List Int} (hs:Sa cI F h A n K l) (hn:n≤1000000) (hK:Q (.int .i64 (sumI l)) h):WC Tryz.prog 39 [.slice A n K] h Q:=by
 refine w_cost_Sum ⟨fun m acc i h1=>∃ k:Nat,i=k∧k≤n∧m=n - k∧acc=sumI (l.take k)∧h1=h,n,⟨0,rfl,Nat.zero_le _,rfl,by simp [sumI],rfl⟩,?_⟩
 rintro m acc i h1 ⟨k,rfl,hk,rfl,rfl,rfl⟩
 refine ⟨fun hlt=>?_,fun hge=>?_⟩
 ·obtain ⟨b,o,x,rfl,hF,hb,hx,e0⟩:=hs.int (k:=k) (by omega)
  exact ⟨_,rfl,_,_,rfl,by omega,_,e0,aAdd _ _ ⟨_,rfl,_,wr_ok (by omega) (by omega),n - (k+1),by omega,k+1,by omega,by omega,rfl,(sumI_succ hx).symm,rfl⟩⟩
 ·have:l.take k=l:=List.take_of_length_le (by rw [hs.len]; omega)
  rwa [this]
theorem aIsNaN (x:Int) (hK:Q (.bool false) h):WC Tryz.prog 274 [.int .i64 x] h Q:=w_slices_isNaN_int ⟨fun _=>hK,fun h=>absurd rfl h⟩
theorem aIsNaN' (x:Int) (hK:Q (.bool false) h):WC Tryz.prog 180 [.int .i64 x] h Q:=w_cmp_isNaN_int ⟨fun _=>hK,fun h=>absurd rfl h⟩
theorem aLess (a b:Int) (hK:Q (.bool (decide (a<b))) h):WC Tryz.prog 273 [.int .i64 a,.int .i64 b] h Q:=by
 refine w_cmp_Less_int (aIsNaN' _ ⟨_,rfl,fun h=>Bool.noConfusion h,fun _=>⟨fun h1=>?_,fun h1=>?_⟩⟩)
 ·rwa [decide_eq_true h1] at hK
 ·rwa [decide_eq_false h1] at hK
theorem mid_ok {i j:Nat} (hi:i≤100000) (hj:j≤100000):IntKind.i64.wrap ((i:Int)+(j:Int))=((i+j:Nat):Int)∧IntKind.u64.wrap ((i+j:Nat):Int)=((i+j:Nat):Int)∧Int.fdiv ((i+j:Nat):Int) (2 ^ 1)=(((i+j) / 2:Nat):Int)∧IntKind.i64.wrap (((i+j) / 2:Nat):Int)=(((i+j) / 2:Nat):Int):=by
 refine ⟨by rw [Int.natCast_add]; exact wr_ok (by omega) (by omega),?_,?_,wr_ok (by omega) (by omega)⟩
 ·simp [IntKind.wrap,IntKind.bits,IntKind.signed]
  omega
 ·rw [Int.fdiv_eq_ediv_of_nonneg _ (by decide)]
  omega
theorem aSearch {F:Nat→Prop} {l:List Nat} (a:Nat) (hs:Sa cI F h A n K (ints l)) (hasc:l.Pairwise (· < ·)) (hn:n≤100000) (hK:∀ (i:Nat) (b:Bool),(b=true→l[i]? = some a)→(b=false→a ∉ l)→Q (.tuple #[.int .i64 i,.bool b]) h) :
  WC Tryz.prog 221 [.slice A n K,.int .i64 a] h Q:=by
 have hl:l.length=n:=by simpa [ints] using hs.len
 have hget:∀ (k y:Nat),l[k]? = some y→(ints l)[k]? = some (y:Int):=fun k y hy=>by simp [ints,hy]
 refine w_slices_BinarySearch_int_int ⟨fun m x y h1=>∃ i j:Nat,x=i∧y=j∧m=j - i∧i≤j∧j≤n∧(∀ (k y:Nat),k<i→l[k]? = some y→y<a)∧(∀ (k y:Nat),j≤k→l[k]? = some y→a≤y)∧h1=h,n,⟨0,n,rfl,rfl,rfl,Nat.zero_le _,Nat.le_refl _,fun k y h=>by omega,fun k y hk hy=>by have:=(List.getElem?_eq_some_iff.1 hy).1; omega,rfl⟩,?_⟩
 rintro m x y h1 ⟨i,j,rfl,rfl,rfl,hij,hjn,ha,hb,rfl⟩
 refine ⟨fun hlt=>?_,fun hge=>?_⟩
 ·obtain ⟨w1,w2,w3,w4⟩:=mid_ok (i:=i) (j:=j) (by omega) (by omega)
  obtain ⟨q,hq⟩:∃ q,(i+j) / 2=q:=⟨_,rfl⟩
  rw [hq] at w3 w4
  have q1:i≤q:=by omega
  have q2:q<j:=by omega
  obtain ⟨b,o,x,rfl,hF,hbl,hx,e0⟩:=hs.int (k:=q) (by omega)
  obtain ⟨y,hy⟩:∃ y,l[q]? = some y:=⟨_,List.getElem?_eq_getElem (by omega)⟩
  rw [hget q y hy] at hx
  injection hx with hx
  subst hx
  refine ⟨_,w1,_,w2,_,w3,_,w4,_,rfl,_,_,rfl,by omega,_,e0,aLess _ _ ⟨_,rfl,fun ht=>?_,fun ht=>?_⟩⟩
  ·have hya:y<a:=by have:=of_decide_eq_true ht; omega
   refine ⟨_,wr_ok (by omega) (by omega),j - (q+1),by omega,q+1,j,by omega,rfl,rfl,by omega,hjn,fun k z hk hz=>?_,hb,rfl⟩
   by_cases e:k=q
   ·subst e; rw [hy] at hz; injection hz with hz; omega
   ·have:=asc_get hasc hz hy (by omega); omega
  ·have hya:a≤y:=by have:=of_decide_eq_false ht; omega
   refine ⟨q - i,by omega,i,q,rfl,rfl,rfl,q1,by omega,ha,fun k z hk hz=>?_,rfl⟩
   by_cases e:k=q
   ·subst e; rw [hy] at hz; injection hz with hz; omega
   ·have:=asc_get hasc hy hz (by omega); omega
 ·obtain rfl:i=j:=by omega
  refine ⟨fun hlt=>?_,fun hge2=>?_⟩
  ·obtain ⟨b,o,x,rfl,hF,hbl,hx,e0⟩:=hs.int (k:=i) (by omega)
   obtain ⟨y,hy⟩:∃ y,l[i]? = some y:=⟨_,List.getElem?_eq_getElem (by omega)⟩
   rw [hget i y hy] at hx
   injection hx with hx
   subst hx
   refine ⟨_,rfl,_,_,rfl,by omega,_,e0,fun hya=>?_,fun hya=>⟨by omega,_,e0,aIsNaN _ ⟨_,rfl,fun h=>Bool.noConfusion h,fun _=>?_⟩⟩⟩
   ·have:y=a:=by omega
    subst this
    exact hK i true (fun _=>hy) (fun h=>Bool.noConfusion h)
   ·refine hK i false (fun h=>Bool.noConfusion h) fun _ hm=>?_
    obtain ⟨k,hk⟩:=List.getElem?_of_mem hm
    have g1:¬ k<i:=fun hk1=>by have:=ha k a hk1 hk; omega
    have g2:=hb i y (Nat.le_refl _) hy
    by_cases e:k=i
    ·subst e; rw [hy] at hk; injection hk with hk; omega
    ·have:=asc_get hasc hy hk (by omega); omega
  ·refine hK i false (fun h=>Bool.noConfusion h) fun _ hm=>?_
   obtain ⟨k,hk⟩:=List.getElem?_of_mem hm
   have hkl:=(List.getElem?_eq_some_iff.1 hk).1
   have:=ha k a (by omega) hk
   omega
theorem aPlace {F:Nat→Prop} {l:List Nat} (a:Nat) (hs:Sa cI F h A n K (ints l)) (hasc:l.Pairwise (· < ·)) (hn:n≤100000) (hK:Q (.int .i64 (placeI l a)) h):WC Tryz.prog 156 [.slice A n K,.int .i64 a] h Q:=by
 refine w_gate_Place (aSearch a hs hasc hn fun i b h1 h2=>⟨_,_,rfl,fun hb=>?_,fun hb=>?_⟩)
 ·have h1:=h1 hb
  have hm:=List.mem_of_getElem? h1
  rwa [placeI,if_pos hm,asc_one hasc (get_idxOf hm) h1] at hK
 ·rwa [placeI,if_neg (h2 hb)] at hK
end
end Eva
end
section
open Go Go.RowKit
namespace Eva
structure OvA (h:AH) (F:Nat→Prop) (o:Nat) (N:NetD) (p:List (List Int)):Prop where
 own:F o∧o<h.next
 part:∃ A n K,ldC h o 0=some (.slice A n K)∧Sa cRows F h A n K p
 from_:∃ A n K,ldC h o 1=some (.slice A n K)∧Sa cI F h A n K ((List.range N.na).map fun a=>((N.fr a:Nat):Int))
 to_:∃ A n K,ldC h o 2=some (.slice A n K)∧Sa cI F h A n K ((List.range N.na).map fun a=>((N.to a:Nat):Int))
 gates:∃ A n K,ldC h o 3=some (.slice A n K)∧Sa (Rc.slice Rc.gate) F h A n K ((List.range p.length).map fun j=>N.gatesL p (j+1))
 starts:∃ A n K,ldC h o 4=some (.slice A n K)∧Sa cRows F h A n K ((List.range p.length).map fun j=>N.startsL p (j+1))
 size:ldC h o 5=some (.int .i64 ((N.size p:Nat):Int))
 hp:PartOk N.nv p
 few:N.size p≤10000000
 ok:N.Ok
 nfew:N.nv≤1000∧N.na≤1000
section
variable {h h':AH} {F:Nat→Prop} {o:Nat} {N:NetD} {p:List (List Int)} {Q:Value→AH→Prop}
theorem OvA.keep (O:OvA h F o N p) (hF:∀ b,F b→b<h.next→h'.get b=h.get b) (hn:h.next≤h'.next):OvA h' F o N p:=by
 have hc:∀ i,ldC h' o i=ldC h o i:=fun i=>ldC_congr (hF o O.own.1 O.own.2) i
 refine ⟨⟨O.own.1,Nat.lt_of_lt_of_le O.own.2 hn⟩,?_,?_,?_,?_,?_,(hc 5).trans O.size,O.hp,O.few,O.ok,O.nfew⟩
 ·obtain ⟨A,n,c,h1,h2⟩:=O.part; exact ⟨A,n,c,(hc 0).trans h1,h2.keep hF hn⟩
 ·obtain ⟨A,n,c,h1,h2⟩:=O.from_; exact ⟨A,n,c,(hc 1).trans h1,h2.keep hF hn⟩
 ·obtain ⟨A,n,c,h1,h2⟩:=O.to_; exact ⟨A,n,c,(hc 2).trans h1,h2.keep hF hn⟩
 ·obtain ⟨A,n,c,h1,h2⟩:=O.gates; exact ⟨A,n,c,(hc 3).trans h1,h2.keep hF hn⟩
 ·obtain ⟨A,n,c,h1,h2⟩:=O.starts; exact ⟨A,n,c,(hc 4).trans h1,h2.keep hF hn⟩
theorem OvA.nw (O:OvA h F o N p) (a:Nw h h'):OvA h' F o N p:=O.keep (fun b _ hb=>a.get b hb) a.next
theorem OvA.off (O:OvA h F o N p) {S:Nat→Prop} (a:Mt S h h') (hS:∀ b,F b→¬ S b):OvA h' F o N p:=O.keep (fun b hb hlt=>a.get b hlt (hS b hb)) a.next
theorem OvA.gate_ (O:OvA h F o N p) {k c:Nat} (hk:k<p.length) (hc:c<most p (k+1)) :
  ∃ b1 o1 n1 K1 b2 o2 K2 A3 K3 A4 K4,ldC h o 3=some (.slice (some ⟨b1,o1,none⟩) n1 K1)∧k<n1∧b1<h.next∧ldC h b1 (o1+k)=some (.slice (some ⟨b2,o2,none⟩) (most p (k+1)) K2)∧b2<h.next ∧
   ldC h b2 (o2+c * 2)=some (.slice A3 (N.ins p (k+1) c).length K3)∧ldC h b2 (o2+c * 2+1)=some (.slice A4 (N.outs p (k+1) c).length K4)∧Sa cI F h A3 (N.ins p (k+1) c).length K3 (ints (N.ins p (k+1) c))∧Sa cI F h A4 (N.outs p (k+1) c).length K4 (ints (N.outs p (k+1) c)):=by
 obtain ⟨A1,n1,K1,g1,s1⟩:=O.gates
 have hn1:p.length=n1:=by have:=s1.len; simpa using this
 obtain ⟨b1,o1,A2,n2,K2,x,rfl,-,l1,hx,e1,s2⟩:=s1.row (k:=k) (by omega)
 have hx2:x=N.gatesL p (k+1):=by simp [hk] at hx; exact hx.symm
 subst hx2
 have hn2:most p (k+1)=n2:=by have:=s2.len; simpa [NetD.gatesL] using this
 subst hn2
 obtain ⟨b2,o2,A3,n3,K3,A4,n4,K4,x,y,rfl,-,l2,hy,e2,e3,s3,s4⟩:=s2.gate (k:=c) hc
 have hy2:(x,y)=(ints (N.ins p (k+1) c),ints (N.outs p (k+1) c)):=by simp [NetD.gatesL,hc] at hy; rw [← hy.1,← hy.2]
 injection hy2 with h1 h2
 subst h1 h2
 have q3:(N.ins p (k+1) c).length=n3:=by simpa [ints] using s3.len
 have q4:(N.outs p (k+1) c).length=n4:=by simpa [ints] using s4.len
 subst q3 q4
 exact ⟨b1,o1,n1,K1,b2,o2,K2,A3,K3,A4,K4,g1,by omega,l1,e1,l2,e2,e3,s3,s4⟩
theorem OvA.row_ (O:OvA h F o N p) {k:Nat} (hk:k<p.length) :
  ∃ b1 o1 n1 K1 A2 K2,ldC h o 4=some (.slice (some ⟨b1,o1,none⟩) n1 K1)∧n1=p.length∧b1<h.next∧ldC h b1 (o1+k)=some (.slice A2 (most p (k+1)) K2)∧Sa cI F h A2 (most p (k+1)) K2 (N.startsL p (k+1)):=by
 obtain ⟨A1,n1,K1,g1,s1⟩:=O.starts
 have hn1:p.length=n1:=by have:=s1.len; simpa using this
 obtain ⟨b1,o1,A2,n2,K2,x,rfl,-,l1,hx,e1,s2⟩:=s1.row (k:=k) (by omega)
 have hx2:x=N.startsL p (k+1):=by simp [hk] at hx; exact hx.symm
 subst hx2
 have hn2:most p (k+1)=n2:=by have:=s2.len; simpa [NetD.startsL] using this
 subst hn2
 exact ⟨b1,o1,n1,K1,A2,K2,g1,hn1.symm,l1,e1,s2⟩
theorem start_ {A:Option Addr} {k n K:Nat} (hs:Sa cI F h A n K (N.startsL p k)) {c:Nat} (hc:c<most p k):∃ b o,A=some ⟨b,o,none⟩∧b<h.next∧ldC h b (o+c)=some (.int .i64 ((N.start p k c:Nat):Int)):=by
 have hn:most p k=n:=by have:=hs.len; simpa [NetD.startsL] using this
 obtain ⟨b,o,x,rfl,-,l,hx,e⟩:=hs.int (k:=c) (by omega)
 have:x=((N.start p k c:Nat):Int):=by simp [NetD.startsL,hc] at hx; exact hx.symm
 subst this
 exact ⟨b,o,rfl,l,e⟩
theorem oSize (O:OvA h F o N p) (hK:Q (.int .i64 ((N.size p:Nat):Int)) h):WC Tryz.prog 43 [.pointer (some ⟨o,0,none⟩)] h Q:=w_over_Over_Size ⟨_,_,rfl,_,O.size,hK⟩
theorem oLevels (O:OvA h F o N p) (hK:Q (.int .i64 (p.length:Int)) h):WC Tryz.prog 85 [.pointer (some ⟨o,0,none⟩)] h Q:=by
 obtain ⟨A,n,K,c0,s⟩:=O.part
 have hn:p.length=n:=s.len
 rw [hn] at hK
 exact w_over_Over_Levels ⟨_,_,rfl,_,_,_,c0,hK⟩
theorem oCells (O:OvA h F o N p) {k:Nat} (hk1:1≤k) (hk:k≤p.length) (hK:Q (.int .i64 (most p k:Int)) h):WC Tryz.prog 86 [.pointer (some ⟨o,0,none⟩),.int .i64 k] h Q:=by
 obtain ⟨A1,n1,K1,g1,s1⟩:=O.gates
 have hn1:p.length=n1:=by have:=s1.len; simpa using this
 obtain ⟨j,rfl⟩:∃ j,k=j+1:=⟨k - 1,by omega⟩
 obtain ⟨b1,o1,A2,n2,K2,x,rfl,-,l1,hx,e1,s2⟩:=s1.row (k:=j) (by omega)
 have hlt:j<p.length:=by omega
 have hx2:x=N.gatesL p (j+1):=by simp [hlt] at hx; exact hx.symm
 subst hx2
 have hn2:most p (j+1)=n2:=by have:=s2.len; simpa [NetD.gatesL] using this
 subst hn2
 have hp6:=O.hp.few
 refine w_over_Over_Cells ⟨fun h=>absurd h (by omega),fun _=>?_⟩
 refine ⟨_,_,rfl,_,_,_,g1,fun h=>absurd h (by omega),fun _=>?_⟩
 exact ⟨_,_,_,g1,_,wr_ok (by omega) (by omega),j,by omega,_,_,rfl,by omega,_,_,_,e1,hK⟩
theorem oHas (O:OvA h F o N p) {k c:Nat} (hk1:1≤k) (hk:k≤p.length) (hc:c<most p k) (hK:Q (.bool true) h):WC Tryz.prog 96 [.pointer (some ⟨o,0,none⟩),.int .i64 k,.int .i64 c] h Q:=
 w_over_Over_has ⟨fun _=>oCells O hk1 hk ⟨_,rfl,fun _=>hK,fun h=>absurd h (by omega)⟩,fun h=>absurd h (by omega)⟩
theorem oFresh {A:Option Addr} {n K:Nat} {xs:List Int} (hs:Sa cI F h A n K xs) (hn:n≤100000) (hK:∀ A' K' h',Sa cI (fun b=>h.next≤b) h' A' n K' xs→Nw h h'→Q (.slice A' n K') h'):WC Tryz.prog 155 [.slice A n K] h Q:=by
 obtain ⟨A',K',h',x1,x2,x3⟩:=copyI hs hn (Nw.refl h) (OwnA.nil cI h h.next _)
 exact w_over_fresh ⟨A',n,K',h',x1,hK _ _ _ x2 x3⟩
theorem oGate (O:OvA h F o N p) {k c:Nat} (hk1:1≤k) (hk:k≤p.length) (hc:c<most p k)
  (hK:∀ A K B L h',Sa cI (fun b=>h.next≤b) h' A (N.ins p k c).length K (ints (N.ins p k c))→Sa cI (fun b=>h.next≤b) h' B (N.outs p k c).length L (ints (N.outs p k c))→Nw h h'→Q (.agg #[.slice A (N.ins p k c).length K,.slice B (N.outs p k c).length L]) h') :
  WC Tryz.prog 92 [.pointer (some ⟨o,0,none⟩),.int .i64 k,.int .i64 c] h Q:=by
 obtain ⟨k,rfl⟩:∃ k',k=k' + 1:=⟨k - 1,by omega⟩
 have hp6:=O.hp.few
 have hna:=O.nfew.2
 refine w_over_Over_Gate fun h1 e1=>?_
 obtain ⟨k1,g1,z1⟩:=news e1
 have O1:=O.nw k1
 obtain ⟨b1,o1,n1,K1,b2,o2,K2,A3,K3,A4,K4,c3,hkn,l1,e2,l2,e3,e4,s3,s4⟩:=O1.gate_ (k:=k) (by omega) hc
 have hi3:(N.ins p (k+1) c).length≤1000:=Nat.le_trans (takeN_len _ _) hna
 have hi4:(N.outs p (k+1) c).length≤1000:=Nat.le_trans (takeN_len _ _) hna
 obtain ⟨ni,hni⟩:∃ ni,(N.ins p (k+1) c).length=ni:=⟨_,rfl⟩
 obtain ⟨no,hno⟩:∃ no,(N.outs p (k+1) c).length=no:=⟨_,rfl⟩
 rw [hni] at e3 s3 hi3 hK
 rw [hno] at e4 s4 hi4 hK
 refine oHas O1 hk1 hk hc ⟨_,rfl,fun _=>?_,fun h=>Bool.noConfusion h⟩
 refine ⟨_,_,rfl,_,_,_,c3,_,wr_ok (by omega) (by omega),k,by omega,_,_,rfl,hkn,_,_,_,e2,c,rfl,_,_,rfl,hc,_,_,_,_,_,_,ldN2 e3 e4,fun h3 e5=>?_⟩
 obtain ⟨h4,hs4,k4,g4,z4⟩:=box_st (vs:=[.slice A3 ni K3,.slice A4 no K4]) e5 rfl (flat2 rfl rfl)
 have y0:ldC h4 h1.next 0=some (.slice A3 ni K3):=ldC_of g4 rfl
 have y1:ldC h4 h1.next 1=some (.slice A4 no K4):=ldC_of g4 rfl
 refine ⟨h4,hs4,_,_,_,y0,_,_,_,y1,oFresh (s3.nw k4) (by omega) fun A5 K5 h5 s5 k5=>⟨_,_,_,rfl,(k5.ldC (by omega) _).trans y1,(s4.eqok),?_⟩⟩
 refine oFresh (s4.nw (k4.trans k5)) (by omega) fun A6 K6 h6 s6 k6=>⟨_,_,_,rfl,?_⟩
 have hz4:h4.next=h.next+2:=by omega
 have k6':Nw h1 h6:=(k4.trans k5).trans k6
 have g6:Bk h6 h.next [.slice none 0 0,.slice none 0 0] 202:=k6'.bk (by omega) g1
 have n5:=k5.next
 have n6:=k6.next
 obtain ⟨h7,hs7,g7,z7,hot⟩:=st_all (vs:=[.slice A5 ni K5,.slice A6 no K6]) g6 rfl (flat2 rfl rfl)
 refine ⟨h7,hs7,_,_,_,_,_,_,ldN_bk g7 (by simp),?_⟩
 have hMt:Mt (fun b=>b=h.next) h6 h7:=⟨by omega,fun b _ hb=>hot b hb⟩
 refine hK _ _ _ _ _ ?_ ?_ (hMt.is_nw (k1.trans k6') (fun b hb=>by omega))
 ·exact (((s5.nw k6).off hMt (fun b hb e=>by omega)).mono fun b hb _=>by omega)
 ·exact ((s6.off hMt (fun b hb e=>by omega)).mono fun b hb _=>by omega)
theorem oAt (O:OvA h F o N p) {k c i j:Nat} (hk1:1≤k) (hk:k≤p.length) (hc:c<most p k) (hi:i<(N.ins p k c).length) (hj:j<(N.outs p k c).length)
  (hK:∀ h',Nw h h'→Q (.int .i64 ((N.start p k c+(i * (N.outs p k c).length+j):Nat):Int)) h'):WC Tryz.prog 47 [.pointer (some ⟨o,0,none⟩),.int .i64 k,.int .i64 c,.int .i64 i,.int .i64 j] h Q:=by
 have hse:=NetD.start_end (N:=N) hk1 hk hc
 have hpl:=pl_lt hi hj
 have hfw:=O.few
 unfold NetD.sz at hse
 obtain ⟨k,rfl⟩:∃ k',k=k' + 1:=⟨k - 1,by omega⟩
 have hp6:=O.hp.few
 obtain ⟨b1,o1,n1,K1,b2,o2,K2,A3,K3,A4,K4,c3,hkn,l1,e2,l2,e3,e4,s3,s4⟩:=O.gate_ (k:=k) (by omega) hc
 obtain ⟨b5,o5,n5,K5,A6,K6,c4,hn5,l5,e5,s6⟩:=O.row_ (k:=k) (by omega)
 obtain ⟨b6,o6,rfl,l6,e6⟩:=start_ s6 hc
 obtain ⟨ni,hni⟩:∃ ni,(N.ins p (k+1) c).length=ni:=⟨_,rfl⟩
 obtain ⟨no,hno⟩:∃ no,(N.outs p (k+1) c).length=no:=⟨_,rfl⟩
 rw [hni] at e3 s3 hi hpl hse
 rw [hno] at e4 s4 hj hK hpl hse
 refine w_over_Over_At (oHas O hk1 hk hc ⟨_,rfl,fun _=>?_,fun h=>Bool.noConfusion h⟩)
 refine ⟨_,_,rfl,_,_,_,c3,_,wr_ok (by omega) (by omega),k,by omega,_,_,rfl,hkn,_,_,_,e2,c,rfl,_,_,rfl,hc,_,_,_,_,_,_,ldN2 e3 e4,fun h2 e7=>?_⟩
 obtain ⟨h3,hs3,k3,g3,z3⟩:=box_st (vs:=[.slice A3 ni K3,.slice A4 no K4]) e7 rfl (flat2 rfl rfl)
 have y0:ldC h3 h.next 0=some (.slice A3 ni K3):=ldC_of g3 rfl
 have y1:ldC h3 h.next 1=some (.slice A4 no K4):=ldC_of g3 rfl
 obtain ⟨t,ht⟩:∃ t,i * no=t:=⟨_,rfl⟩
 rw [ht] at hpl hK
 have w1:IntKind.i64.wrap ((i:Int) * (no:Int))=(t:Int):=by rw [← Int.natCast_mul,ht]; exact wr_ok (by omega) (by omega)
 have w2:IntKind.i64.wrap (((N.start p (k+1) c:Nat):Int)+(t:Int))=((N.start p (k+1) c+t:Nat):Int):=by rw [Int.natCast_add]; exact wr_ok (by omega) (by omega)
 have w3:IntKind.i64.wrap (((N.start p (k+1) c+t:Nat):Int)+(j:Int))=((N.start p (k+1) c+(t+j):Nat):Int):=by rw [← Nat.add_assoc,Int.natCast_add _ j]; exact wr_ok (by omega) (by omega)
 refine ⟨h3,hs3,fun h=>absurd h (by omega),fun _=>⟨_,_,_,y0,fun h=>absurd h (by omega),fun _=>⟨fun h=>absurd h (by omega),fun _=>⟨_,_,_,y1,fun h=>absurd h (by omega),fun _=>?_⟩⟩⟩⟩
 exact ⟨_,_,_,(k3.ldC O.own.2 _).trans c4,_,wr_ok (by omega) (by omega),k,by omega,_,_,rfl,by omega,_,_,_,(k3.ldC l5 _).trans e5,_,_,rfl,hc,_,(k3.ldC l6 _).trans e6,_,_,_,y1,_,w1,_,w2,_,w3,hK _ k3⟩
end
end Eva
end
section
open Go Go.RowKit
namespace Eva
theorem ints_ld {h:AH} {b k:Nat} {xs:List Int} {x:Int} {t:TypeId} (hb:Bk h b (xs.map (Value.int .i64)) t) (hx:xs[k]? = some x):ldC h b (0+k)=some (.int .i64 x):=by
 rw [ldC_bk hb,Nat.zero_add]
 simp [hx]
theorem ints_st {h:AH} {b k:Nat} {xs:List Int} {t:TypeId} (hb:Bk h b (xs.map (Value.int .i64)) t) (hk:k<xs.length) (x:Int) :
  ∃ h2,stC h b (0+k) [.int .i64 x]=some h2∧Bk h2 b ((xs.set k x).map (Value.int .i64)) t∧h2.next=h.next∧∀ b',b'≠b→h2.get b' = h.get b':=by
 obtain ⟨h2,h1,h3,h4,h5⟩:=st_one (v:=.int .i64 x) hb (o:=0+k) (by simpa using hk) rfl
 refine ⟨h2,h1,?_,h4,h5⟩
 rw [Nat.zero_add,← List.map_set] at h3
 exact h3
def RowA (h:AH) (A:Option Addr) (n K:Nat) (xs:List Int):Prop:=
 xs.length=n∧((A=none∧n=0∧K=0)∨∃ g c rest,A=some ⟨g,0,none⟩∧g<h.next∧K=cl c∧0<c∧rest.length+n=c∧Bk h g (xs.map (Value.int .i64) ++ rest) 3)
section
variable {h h':AH} {A:Option Addr} {n K:Nat} {xs:List Int}
theorem RowA.keep (o:RowA h A n K xs) (hk:∀ b,ownB A b→b<h.next→h'.get b=h.get b) (hn:h.next≤h'.next):RowA h' A n K xs:=by
 obtain ⟨hl,o⟩:=o
 refine ⟨hl,?_⟩
 rcases o with o | ⟨g,c,rest,rfl,h1,h2,h3,h4,h5⟩
 ·exact .inl o
 ·exact .inr ⟨g,c,rest,rfl,Nat.lt_of_lt_of_le h1 hn,h2,h3,h4,(hk g rfl h1).trans h5⟩
theorem RowA.read (o:RowA h A n K xs) {i:Nat} {x:Int} (hx:xs[i]? = some x):∃ g,A=some ⟨g,0,none⟩∧g<h.next∧i<n∧ldC h g (0+i)=some (.int .i64 x):=by
 obtain ⟨hl,o⟩:=o
 have hi:=(List.getElem?_eq_some_iff.1 hx).1
 rcases o with ⟨_,h1,_⟩ | ⟨g,c,rest,rfl,h1,h2,h3,h4,h5⟩
 ·omega
 ·refine ⟨g,rfl,h1,by omega,?_⟩
  rw [ldC_bk h5,Nat.zero_add,List.getElem?_append_left (by simpa using hi)]
  simp [hx]
theorem RowA.store {g:Nat} (o:RowA h (some ⟨g,0,none⟩) n K xs) {i:Nat} (hi:i<n) (x:Int):∃ h1,stC h g (0+i) [.int .i64 x]=some h1∧RowA h1 (some ⟨g,0,none⟩) n K (xs.set i x)∧h1.next=h.next∧∀ b,b≠g→h1.get b=h.get b:=by
 obtain ⟨hl,o⟩:=o
 rcases o with ⟨h0,_,_⟩ | ⟨g',c,rest,hA,h1,h2,h3,h4,h5⟩
 ·cases h0
 ·injection hA with hA
  injection hA with hA
  subst hA
  obtain ⟨hh,q1,q2,q3,q4⟩:=st_one (v:=.int .i64 x) h5 (o:=0+i) (by simp; omega) rfl
  refine ⟨hh,q1,⟨by simp [hl],.inr ⟨g,c,rest,rfl,by omega,h2,h3,h4,?_⟩⟩,q3,q4⟩
  rw [Nat.zero_add,List.set_append_left _ _ (by simp; omega),← List.map_set] at q2
  exact q2
theorem RowA.cut (o:RowA h A n K xs) {m:Nat} (hm:m≤n) (hA:0<n):RowA h A m K (xs.take m)∧vSliceS Tryz.prog 3 A n K none (some m) none=some (.slice A m K):=by
 obtain ⟨hl,o⟩:=o
 rcases o with ⟨_,h1,_⟩ | ⟨g,c,rest,rfl,h1,h2,h3,h4,h5⟩
 ·omega
 ·refine ⟨⟨by simp; omega,.inr ⟨g,c,(xs.drop m).map (Value.int .i64) ++ rest,rfl,h1,h2,h3,by simp; omega,?_⟩⟩,?_⟩
  ·rw [← List.append_assoc,← List.map_append,List.take_append_drop]
   exact h5
  ·obtain ⟨i,hi,hsz⟩:∃ i,Tryz.prog.info? 3=some i∧i.size=1:=by
    obtain ⟨i,q1,q2,-⟩:=tyB_parts tyI8
    exact ⟨i,q1,q2⟩
   unfold vSliceS
   rw [hi]
   have hc2:K / 2=c:=by rw [h2]; unfold cl; omega
   have hp:Nat.beq (K % 2) 0=false:=by
    have:K % 2=1:=by rw [h2]; unfold cl; omega
    rw [this]; rfl
   have hb1:Nat.ble m (K / 2)=true:=Nat.ble_eq_true_of_le (by omega)
   have hb0:Nat.ble 0 m=true:=Nat.ble_eq_true_of_le (Nat.zero_le _)
   have hlt:Nat.blt 0 (K / 2)=true:=Nat.ble_eq_true_of_le (by omega)
   show cond (Option.isNone (none:Option Nat) || Option.isSome (some m)) (sliceV i.size (some ⟨g,0,none⟩) n K ((none:Option Nat).getD 0) (some m) none) none=_
   simp only [Option.isNone_none,Bool.true_or,cond_true,Option.getD_none]
   unfold sliceV
   simp only [Option.getD_some,hb1,hb0,Bool.and_self,cond_true,hp,cond_false]
   unfold sliceY
   rw [hlt]
   simp only [cond_true,Nat.sub_zero,Nat.zero_mul,Option.map_some]
   rw [hc2,h2]
   rfl
theorem RowA.app (o:RowA h A n K xs) {B L:Nat} {x:Int} (hB:ldC h B 0=some (.int .i64 x)) (hn:n<100000) :
  ∃ A' K' h1,lAppend Tryz.prog h (some (.slice 3)) (some (.slice 3)) (.slice A n K) (.slice (some ⟨B,0,none⟩) 1 L)=some (.slice A' (n+1) K',h1)∧RowA h1 A' (n+1) K' (xs ++ [x])∧h.next≤h1.next∧(∀ b,b<h.next→¬ ownB A b→h1.get b=h.get b)∧(∀ b,ownB A' b→ownB A b∨(h.next≤b∧b<h1.next)):=by
 obtain ⟨hl,o⟩:=o
 have hap:=lApp_eq (P:=Tryz.prog) (h:=h) (e:=3) (size:=1) (bytes:=8) (A:=A) (K:=K) (L:=L) (B:=some ⟨B,0,none⟩) (n:=n) (m:=1) (cells:=[.int .i64 x]) tyI8 rfl (by simp [flat]) (fun _=>⟨B,0,rfl,fun j u hj=>by
  match j,hj with
  | 0,hj=>injection hj with hj; subst hj; exact hB⟩) (by omega) (by omega)
 rcases o with ⟨rfl,rfl,rfl⟩ | ⟨g,c,rest,rfl,h1,h2,h3,h4,h5⟩
 ·have hxs:xs = []:=List.eq_nil_of_length_eq_zero hl
  subst hxs
  obtain ⟨k1,k2,k3⟩:=news (h:=h) (ao:=.cells [.int .i64 x] 3 false) rfl
  refine ⟨some ⟨h.next,0,none⟩,cl 1,_,hap,⟨rfl,.inr ⟨h.next,1,[],rfl,by rw [k3]; omega,rfl,by omega,rfl,k2⟩⟩,k1.next,fun b hb _=>k1.get b hb,fun b hb=>.inr ?_⟩
  have:b=h.next:=hb
  rw [k3]; omega
 ·by_cases hroom:n+1≤c
  ·have hble:Nat.ble (n+1) (K / 2)=true:=Nat.ble_eq_true_of_le (by rw [h2]; unfold cl; omega)
   rw [hble] at hap
   simp only [cond_true] at hap
   obtain ⟨hh,q1,q2,q3,q4⟩:=st_one (v:=.int .i64 x) h5 (o:=n) (by simp; omega) rfl
   have hadd:(⟨g,0,none⟩:Addr).add (n * 1)=⟨g,n,none⟩:=by
    rw [Nat.mul_one]
    unfold Addr.add
    split
    ·rename_i h0; subst h0; rfl
    ·simp
   have hst:storeA h ((⟨g,0,none⟩:Addr).add (n * 1)) [.int .i64 x]=some hh:=by rw [hadd]; exact q1
   refine ⟨some ⟨g,0,none⟩,K,hh,?_,⟨by simp [hl],.inr ⟨g,c,rest.drop 1,rfl,by omega,h2,h3,by simp; omega,?_⟩⟩,by omega,fun b hb hne=>q4 b (fun e=>hne e),fun b hb=>.inl hb⟩
   ·rw [hap]
    unfold appIn
    simp only [show Nat.beq 1 0=false from rfl,cond_false,hst]
   ·obtain ⟨r0,rs,hr⟩:∃ r0 rs,rest=r0 :: rs:=by
     cases hrest:rest with
     | nil=>rw [hrest] at h4; simp at h4; omega
     | cons a l=>exact ⟨a,l,rfl⟩
    subst hr
    rw [List.set_append_right _ _ (by simp; omega)] at q2
    have hz:n - (xs.map (Value.int .i64)).length=0:=by simp; omega
    rw [hz] at q2
    simpa using q2
  ·have hnc:n=c:=by omega
   have hnle:Nat.ble (n+1) (K / 2)=false:=by
    cases hb:Nat.ble (n+1) (K / 2) with
    | false=>rfl
    | true=>have:=Nat.le_of_ble_eq_true hb; rw [h2] at this; unfold cl at this; omega
   rw [hnle] at hap
   simp only [cond_false] at hap
   have hrest:rest = []:=List.eq_nil_of_length_eq_zero (by omega)
   subst hrest
   rw [List.append_nil] at h5
   have hcell:cellsAt h g=some (xs.map (Value.int .i64),3,false):=by unfold cellsAt; rw [h5]
   have hcut:cutL (xs.map (Value.int .i64)) 0 (n * 1)=some (xs.map (Value.int .i64)):=by
    rw [cutL_ok (by simp; omega)]
    rw [List.drop_zero,List.take_of_length_le (by simp; omega)]
   have hp:Nat.beq (K % 2) 0=false:=by
    have:K % 2=1:=by rw [h2]; unfold cl; omega
    rw [this]; rfl
   have hout:appOut h 3 1 (some ⟨g,0,none⟩) n K 1 [.int .i64 x]=some (asSl (n+1) (cl (n+1)) h.next,(h.del g).new (.cells (xs.map (Value.int .i64) ++ [.int .i64 x]) 3 false)):=by
    unfold appOut
    simp only [hcell,hcut,hp,cond_false,Nat.beq_refl,Bool.not_false,Bool.and_self,cond_true]
   rw [hout] at hap
   refine ⟨some ⟨h.next,0,none⟩,cl (n+1),_,hap,⟨by simp [hl],.inr ⟨h.next,n+1,[],rfl,by rw [next_new,next_del]; omega,rfl,by omega,by simp,?_⟩⟩,by rw [next_new,next_del]; omega,fun b hb hne=>?_,fun b hb=>.inr ?_⟩
   ·rw [Bk,get_new,next_del,if_pos rfl]
    simp
   ·have hbg:b≠g:=fun e=>hne e
    rw [get_new,next_del,if_neg (by omega),get_del,if_neg hbg]
   ·have:b=h.next:=hb
    rw [next_new,next_del]; omega
end
structure HeapA (h:AH) (S:Nat→Prop) (hp N:Nat) (row:List Nat) (costs:List Int) (A:Option Addr) (K Bc Bs:Nat) (seats:List Int):Prop where
 blk:Bk h hp [.slice A row.length K,.slice (some ⟨Bc,0,none⟩) N (cx N),.slice (some ⟨Bs,0,none⟩) N (cx N)] 185
 bc:Bk h Bc (costs.map (Value.int .i64)) 2
 bs:Bk h Bs (seats.map (Value.int .i64)) 3
 own:RowA h A row.length K (kInts row)
 lt3:hp<h.next∧Bc<h.next∧Bs<h.next
 inS:S hp∧S Bc∧S Bs
 ne:hp≠Bc∧hp≠Bs∧Bc≠Bs
 far:∀ g,ownB A g→S g∧g≠hp∧g≠Bc∧g≠Bs
 cl:costs.length=N
 nN:N≤16384
 lt:∀ k∈row,k<N
 nodup:row.Nodup
 cbd:∀ c∈costs,0≤c∧c≤1152921504606846976
 seat:SeatsOk N row seats
section
variable {h h':AH} {S:Nat→Prop} {hp N:Nat} {row:List Nat} {costs:List Int} {A:Option Addr} {K Bc Bs:Nat} {seats:List Int} {Q:Value→AH→Prop}
theorem HeapA.few (H:HeapA h S hp N row costs A K Bc Bs seats):row.length≤N:=nodup_len H.nodup H.lt
theorem HeapA.keep (H:HeapA h S hp N row costs A K Bc Bs seats) (hk:∀ b,S b→b<h.next→h'.get b=h.get b) (hn:h.next≤h'.next):HeapA h' S hp N row costs A K Bc Bs seats:=
 ⟨(hk _ H.inS.1 H.lt3.1).trans H.blk,(hk _ H.inS.2.1 H.lt3.2.1).trans H.bc,(hk _ H.inS.2.2 H.lt3.2.2).trans H.bs,H.own.keep (fun b hb hlt=>hk b (H.far b hb).1 hlt) hn,
  ⟨Nat.lt_of_lt_of_le H.lt3.1 hn,Nat.lt_of_lt_of_le H.lt3.2.1 hn,Nat.lt_of_lt_of_le H.lt3.2.2 hn⟩,H.inS,H.ne,H.far,H.cl,H.nN,H.lt,H.nodup,H.cbd,H.seat⟩
theorem HeapA.cost (H:HeapA h S hp N row costs A K Bc Bs seats) {k:Nat} (hk:k<N):∃ c,costs[k]? = some c∧ldC h Bc (0+k)=some (.int .i64 c)∧0≤c∧c≤1152921504606846976:=by
 have hl:k<costs.length:=by rw [H.cl]; exact hk
 have h1:costs[k]? = some costs[k]:=List.getElem?_eq_getElem hl
 exact ⟨costs[k],h1,ints_ld H.bc h1,H.cbd _ (List.getElem_mem hl)⟩
theorem HeapA.seatAt (H:HeapA h S hp N row costs A K Bc Bs seats) {k:Nat} (hk:k<N):∃ s,seats[k]? = some s∧ldC h Bs (0+k)=some (.int .i64 s):=by
 have hl:k<seats.length:=by rw [H.seat.1]; exact hk
 have h1:seats[k]? = some seats[k]:=List.getElem?_eq_getElem hl
 exact ⟨seats[k],h1,ints_ld H.bs h1⟩
theorem HeapA.c0 (H:HeapA h S hp N row costs A K Bc Bs seats):ldC h hp 0=some (.slice A row.length K):=ldC_of H.blk rfl
theorem HeapA.c1 (H:HeapA h S hp N row costs A K Bc Bs seats):ldC h hp 1=some (.slice (some ⟨Bc,0,none⟩) N (cx N)):=ldC_of H.blk rfl
theorem HeapA.c2 (H:HeapA h S hp N row costs A K Bc Bs seats):ldC h hp 2=some (.slice (some ⟨Bs,0,none⟩) N (cx N)):=ldC_of H.blk rfl
theorem hKey (H:HeapA h S hp N row costs A K Bc Bs seats) {k:Nat} (hk:k<N) (hK:Q (.bool true) h):WC Tryz.prog 80 [.pointer (some ⟨hp,0,none⟩),.int .i64 k] h Q:=
 w_heap_Heap_key ⟨fun _=>⟨_,_,rfl,_,_,_,H.c2,fun _=>hK,fun h=>absurd h (by omega)⟩,fun h=>absurd h (by omega)⟩
theorem hAhead {i j a b:Nat} (H:HeapA h S hp N row costs A K Bc Bs seats) (hi:row[i]? = some a) (hj:row[j]? = some b) (hK:Q (.bool (aheadB costs a b)) h):WC Tryz.prog 148 [.pointer (some ⟨hp,0,none⟩),.int .i64 i,.int .i64 j] h Q:=by
 obtain ⟨g,rfl,hg,hil,e0⟩:=H.own.read (kInts_get hi)
 obtain ⟨g',hA,-,hjl,f0⟩:=H.own.read (kInts_get hj)
 injection hA with hA
 injection hA with hA
 subst hA
 have ha:=H.lt a (List.mem_of_getElem? hi)
 have hb:=H.lt b (List.mem_of_getElem? hj)
 obtain ⟨x,hx,x0,-,-⟩:=H.cost ha
 obtain ⟨y,hy,y0,-,-⟩:=H.cost hb
 have hq:aheadB costs a b=decide (x<y∨(x=y∧a<b)):=by simp [aheadB,List.getD_eq_getElem?_getD,hx,hy]
 rw [hq] at hK
 refine w_heap_Heap_ahead ⟨_,_,rfl,_,_,_,H.c0,_,rfl,_,_,rfl,hil,_,e0,_,_,_,H.c0,_,rfl,_,_,rfl,hjl,_,f0,_,_,_,H.c1,_,rfl,_,_,rfl,ha,_,x0,_,_,_,H.c1,_,rfl,_,_,rfl,hb,_,y0,fun hxy=>⟨fun hab=>?_,fun hab=>?_⟩,fun hxy=>⟨_,_,_,H.c1,_,_,rfl,ha,_,x0,_,_,_,H.c1,_,_,rfl,hb,_,y0,fun hlt=>?_,fun hlt=>?_⟩⟩
 ·rwa [decide_eq_true (.inr ⟨hxy,by omega⟩)] at hK
 ·rwa [decide_eq_false (by omega)] at hK
 ·rwa [decide_eq_true (.inl hlt)] at hK
 ·rwa [decide_eq_false (by omega)] at hK
theorem hSwap {i j a b:Nat} (H:HeapA h S hp N row costs A K Bc Bs seats) (hi:row[i]? = some a) (hj:row[j]? = some b)
  (hK:∀ h',HeapA h' S hp N (swL row i j) costs A K Bc Bs ((seats.set b ((i:Int)+1)).set a ((j:Int)+1))→Mt S h h'→h'.next=h.next→Q (.tuple #[]) h'):WC Tryz.prog 82 [.pointer (some ⟨hp,0,none⟩),.int .i64 i,.int .i64 j] h Q:=by
 obtain ⟨g,rfl,hg,hil,e0⟩:=H.own.read (kInts_get hi)
 obtain ⟨g',hA,-,hjl,f0⟩:=H.own.read (kInts_get hj)
 injection hA with hA
 injection hA with hA
 subst hA
 have ha:=H.lt a (List.mem_of_getElem? hi)
 have hb:=H.lt b (List.mem_of_getElem? hj)
 have hN:=H.nN
 have hfw:=H.few
 obtain ⟨hgS,gn1,gn2,gn3⟩:=H.far g rfl
 obtain ⟨n1,n2,n3⟩:=H.ne
 obtain ⟨h1,s1,o1,z1,k1⟩:=H.own.store hil (b:Int)
 obtain ⟨h2,s2,o2,z2,k2⟩:=o1.store hjl (a:Int)
 have b2:∀ c,c≠g→h2.get c=h.get c:=fun c hc=>(k2 c hc).trans (k1 c hc)
 have y2:ldC h2 hp 2=some (.slice (some ⟨Bs,0,none⟩) N (cx N)):=(ldC_congr (b2 hp (Ne.symm gn1)) _).trans H.c2
 have y0:ldC h2 hp 0=some (.slice (some ⟨g,0,none⟩) row.length K):=(ldC_congr (b2 hp (Ne.symm gn1)) _).trans H.c0
 have hrow:((kInts row).set i (b:Int)).set j (a:Int)=kInts (swL row i j):=by
  rw [kInts_set,kInts_set,swL]
  simp [List.getD_eq_getElem?_getD,hi,hj]
 rw [hrow] at o2
 have hsw:=fun x=>swL_get hil hjl x
 have hnewi:(swL row i j)[i]? = some b:=by rw [hsw,if_pos rfl,hj]
 have hnewj:(swL row i j)[j]? = some a:=by
  rw [hsw]
  by_cases e:j=i
  ·subst e; rw [if_pos rfl]; exact hi
  ·rw [if_neg e,if_pos rfl,hi]
 obtain ⟨q,hq,-,-,x0⟩:=o2.read (kInts_get hnewi)
 injection hq with hq
 injection hq with hq
 subst hq
 have bs2:Bk h2 Bs (seats.map (Value.int .i64)) 3:=(b2 Bs (Ne.symm gn3)).trans H.bs
 have hsl:=H.seat.1
 obtain ⟨h3,s3,c3,z3,k3⟩:=ints_st bs2 (k:=b) (by omega) ((i:Int)+1)
 have o3:RowA h3 (some ⟨g,0,none⟩) row.length K (kInts (swL row i j)):=o2.keep (fun c hc _=>k3 c (by have:c=g:=hc; omega)) (by omega)
 obtain ⟨q,hq,-,-,x1⟩:=o3.read (kInts_get hnewj)
 injection hq with hq
 injection hq with hq
 subst hq
 have y2':ldC h3 hp 2=some (.slice (some ⟨Bs,0,none⟩) N (cx N)):=(ldC_congr (k3 hp n2) _).trans y2
 have y0':ldC h3 hp 0=some (.slice (some ⟨g,0,none⟩) row.length K):=(ldC_congr (k3 hp n2) _).trans y0
 obtain ⟨h4,s4,c4,z4,k4⟩:=ints_st c3 (k:=a) (by rw [List.length_set]; omega) ((j:Int)+1)
 have oth:∀ c,c≠g→c≠Bs→h4.get c=h.get c:=fun c h1 h2=>((k4 c h2).trans (k3 c h2)).trans (b2 c h1)
 have hl9:(swL row i j).length=row.length:=swL_len _ _ _
 refine w_heap_Heap_swap ⟨_,_,rfl,_,_,_,H.c0,_,_,_,H.c0,_,_,_,H.c0,_,rfl,_,_,rfl,hjl,_,f0,_,_,_,H.c0,_,rfl,_,_,rfl,hil,_,e0,_,_,rfl,hil,h1,s1,_,_,rfl,hjl,h2,s2,_,_,_,y2,_,_,_,y0,_,_,rfl,hil,_,x0,_,wr_ok (by omega) (by omega),_,rfl,_,_,rfl,hb,h3,s3,_,_,_,y2',_,_,_,y0',_,_,rfl,hjl,_,x1,_,wr_ok (by omega) (by omega),_,rfl,_,_,rfl,ha,h4,s4,?_⟩
 refine hK h4 ⟨?_,(oth Bc (Ne.symm gn2) n3).trans H.bc,c4,?_,⟨by have:=H.lt3; omega,by have:=H.lt3; omega,by have:=H.lt3; omega⟩,H.inS,H.ne,H.far,H.cl,H.nN,fun k hk=>H.lt k ((swL_mem hil hjl k).1 hk),swL_nodup hil hjl H.nodup,H.cbd,seats_sw H.seat H.nodup H.lt hi hj⟩ ⟨by omega,fun c _ hc=>oth c (fun e=>hc (e ▸ hgS)) (fun e=>hc (e ▸ H.inS.2.2))⟩ (by omega)
 ·rw [hl9]; exact (oth hp (Ne.symm gn1) n2).trans H.blk
 ·rw [hl9]; exact o3.keep (fun c hc _=>k4 c (by have:c=g:=hc; omega)) (by omega)
end
end Eva
end
section
open Go Go.RowKit
namespace Eva
section
variable {h h':AH} {S:Nat→Prop} {hp N:Nat} {row:List Nat} {costs:List Int} {A:Option Addr} {K Bc Bs:Nat} {seats:List Int} {Q:Value→AH→Prop}
theorem tdiv2 {k:Nat} (hk:0<k) (hk2:k≤100000):IntKind.i64.wrap ((k:Int) - 1)=(k:Int) - 1∧IntKind.i64.wrap (Int.tdiv ((k:Int) - 1) 2)=(((k - 1) / 2:Nat):Int):=by
 have:Int.tdiv ((k:Int) - 1) 2=(((k - 1) / 2:Nat):Int):=by
  rw [Int.tdiv_eq_ediv_of_nonneg (by omega)]
  omega
 exact ⟨wr_ok (by omega) (by omega),by rw [this]; exact wr_ok (by omega) (by omega)⟩
theorem hUp {i:Nat} (H:HeapA h S hp N row costs A K Bc Bs seats) (hi:i<row.length) (hu:UpR (cOf costs) (rOf row) row.length i)
  (hK:∀ h' row' seats',HeapA h' S hp N row' costs A K Bc Bs seats'→row'.length=row.length→(∀ k,k∈row'↔k∈row)→HeapR (cOf costs) (rOf row') row'.length→Mt S h h'→h'.next=h.next→Q (.tuple #[]) h') :
  WC Tryz.prog 81 [.pointer (some ⟨hp,0,none⟩),.int .i64 i] h Q:=by
 have hN:=H.nN
 have hf:=H.few
 refine w_heap_Heap_up ⟨fun m x h1=>∃ (k:Nat) (row':List Nat) (seats':List Int),x=k∧m=k∧k<row.length∧HeapA h1 S hp N row' costs A K Bc Bs seats'∧row'.length=row.length∧(∀ k,k∈row'↔k∈row)∧UpR (cOf costs) (rOf row') row'.length k∧Mt S h h1∧h1.next=h.next,i,⟨i,row,seats,rfl,rfl,hi,H,rfl,fun _=>Iff.rfl,hu,Mt.refl _ _,rfl⟩,?_⟩
 rintro m x h1 ⟨k,row',seats',rfl,hmk,hk,H1,hl,hm,hu,hmt,hz⟩
 subst m
 refine ⟨fun hk0=>?_,fun hk0=>?_⟩
 ·obtain ⟨w1,w2⟩:=tdiv2 (k:=k) (by omega) (by omega)
  obtain ⟨p,hpp⟩:∃ p,(k - 1) / 2=p:=⟨_,rfl⟩
  rw [hpp] at w2
  have hpk:p<k:=by omega
  obtain ⟨a,ha⟩:∃ a,row'[k]? = some a:=⟨_,List.getElem?_eq_getElem (by omega)⟩
  obtain ⟨b,hb⟩:∃ b,row'[p]? = some b:=⟨_,List.getElem?_eq_getElem (by omega)⟩
  refine ⟨_,w1,_,w2,hAhead H1 ha hb ⟨_,rfl,fun ht=>⟨_,w1,_,w2,hSwap H1 ha hb fun h2 H2 m2 z2=>⟨rfl,_,w1,_,w2,p,hpk,p,_,_,rfl,rfl,by omega,H2,?_,fun x=>?_,?_,hmt.then m2,by omega⟩⟩,fun ht=>?_⟩⟩
  ·rw [swL_len]; exact hl
  ·rw [swL_mem (by omega) (by omega)]; exact hm x
  ·rw [rOf_sw (by omega) (by omega),swL_len,← hpp]
   refine hu.step (by omega) (by omega) ?_
   rw [hpp,rOf_get ha,rOf_get hb]
   exact ahead_yes ht
  ·refine hK h1 row' seats' H1 hl hm (hu.done (.inr ?_)) hmt hz
   rw [hpp,rOf_get ha,rOf_get hb]
   exact ahead_no ht
 ·exact hK h1 row' seats' H1 hl hm (hu.done (.inl (by omega))) hmt hz
theorem hDown (H:HeapA h S hp N row costs A K Bc Bs seats) (hu:DownR (cOf costs) (rOf row) row.length 0)
  (hK:∀ h' row' seats',HeapA h' S hp N row' costs A K Bc Bs seats'→row'.length=row.length→(∀ k,k∈row'↔k∈row)→HeapR (cOf costs) (rOf row') row'.length→Mt S h h'→h'.next=h.next→Q (.tuple #[]) h') :
  WC Tryz.prog 83 [.pointer (some ⟨hp,0,none⟩),.int .i64 0] h Q:=by
 have hN:=H.nN
 have hf:=H.few
 refine w_heap_Heap_down ⟨fun m x h1=>∃ (k:Nat) (row':List Nat) (seats':List Int),x=k∧m=row.length - k∧(k<row.length∨k=0)∧HeapA h1 S hp N row' costs A K Bc Bs seats'∧row'.length=row.length∧(∀ k,k∈row'↔k∈row)∧DownR (cOf costs) (rOf row') row'.length k∧Mt S h h1∧h1.next=h.next,row.length,⟨0,row,seats,rfl,rfl,.inr rfl,H,rfl,fun _=>Iff.rfl,hu,Mt.refl _ _,rfl⟩,?_⟩
 rintro m x h1 ⟨k,row',seats',rfl,rfl,hk,H1,hl,hm,hu,hmt,hz⟩
 have hk9:k≤16384:=by rcases hk with h | h <;> omega
 have w0:IntKind.i64.wrap (2 * (k:Int))=2 * (k:Int):=wr_ok (by omega) (by omega)
 have w1:IntKind.i64.wrap (2 * (k:Int)+1)=((2 * k+1:Nat):Int):=by rw [show (2 * (k:Int)+1)=((2 * k+1:Nat):Int) by omega]; exact wr_ok (by omega) (by omega)
 have w2:IntKind.i64.wrap (2 * (k:Int)+2)=2 * (k:Int)+2:=wr_ok (by omega) (by omega)
 refine ⟨_,w0,_,w1,fun m x y h2=>∃ (q j:Nat),x=q∧y=j∧m=2 * k+3 - j∧2 * k+1≤j∧j≤2 * k+3∧LeastOf (cOf costs) (rOf row') row'.length k j q∧h2=h1,2,⟨k,2 * k+1,rfl,rfl,by omega,by omega,by omega,LeastOf.start _ _ _ _,rfl⟩,?_⟩
 rintro m x y h2 ⟨q,j,rfl,rfl,rfl,hj1,hj2,hL,rfl⟩
 have fin:(2 * k+2<j∨row'.length≤j)→(((q:Nat):Int)=(k:Int)→Q (.tuple #[]) h2)∧(¬ (((q:Nat):Int)=(k:Int))→WC Tryz.prog 82 [.pointer (some ⟨hp,0,none⟩),.int .i64 (k:Int),.int .i64 (q:Int)] h2 (fun v2 h4=>v2 = .tuple #[]∧∃ m':Nat,m' < row.length - k∧∃ (k':Nat) (row'':List Nat) (seats'':List Int),((q:Nat):Int)=k'∧m' = row.length - k'∧(k' < row.length∨k' = 0)∧HeapA h4 S hp N row'' costs A K Bc Bs seats''∧row''.length=row.length∧(∀ k,k∈row''↔k∈row)∧DownR (cOf costs) (rOf row'') row''.length k'∧Mt S h h4∧h4.next=h.next)):=by
  intro hend
  have hkids:∀ x,0<x→x<row'.length→(x - 1) / 2=k→HLe (cOf costs) (rOf row' q) (rOf row' x):=fun x h0 hx hxk=>hL.kid x (by omega) (by omega) hx
  refine ⟨fun e=>?_,fun e=>?_⟩
  ·have:q=k:=by omega
   subst this
   exact hK h2 row' seats' H1 hl hm (hu.done hkids) hmt hz
  ·rcases hL.who with e' | ⟨e1,e2,e3,e4⟩
   ·exact absurd e' (by omega)
   ·obtain ⟨a,ha⟩:∃ a,row'[k]? = some a:=⟨_,List.getElem?_eq_getElem (by omega)⟩
    obtain ⟨b,hb⟩:∃ b,row'[q]? = some b:=⟨_,List.getElem?_eq_getElem e4⟩
    refine hSwap H1 ha hb fun h4 H4 m4 z4=>⟨rfl,row.length - q,by omega,q,_,_,rfl,rfl,.inl (by omega),H4,by rw [swL_len]; exact hl,fun x=>by rw [swL_mem (by omega) (by omega)]; exact hm x,?_,hmt.then m4,by omega⟩
    rw [rOf_sw (by omega) (by omega),swL_len]
    exact hu.step (by omega) (by omega) e4 hL.own hkids
 have c0:=H1.c0
 rw [hl] at c0
 refine ⟨_,w0,_,w2,fun hc=>⟨_,_,rfl,_,_,_,c0,fun hjn=>?_,fun hjn=>fin (.inr (by omega))⟩,fun hc=>fin (.inl (by omega))⟩
 obtain ⟨a,ha⟩:∃ a,row'[j]? = some a:=⟨_,List.getElem?_eq_getElem (by omega)⟩
 have hq:q<row'.length:=by
  rcases hL.who with e | e
  ·omega
  ·exact e.2.2.2
 obtain ⟨b,hb⟩:∃ b,row'[q]? = some b:=⟨_,List.getElem?_eq_getElem hq⟩
 have wj:IntKind.i64.wrap ((j:Int)+1)=((j+1:Nat):Int):=by rw [Int.natCast_add]; exact wr_ok (by omega) (by omega)
 refine hAhead H1 ha hb ⟨_,rfl,fun ht=>⟨_,wj,2 * k+3 - (j+1),by omega,j,j+1,rfl,rfl,rfl,by omega,by omega,hL.yes hj1 (by omega) (by omega) ?_,rfl⟩,fun ht=>⟨_,wj,2 * k+3 - (j+1),by omega,q,j+1,rfl,rfl,rfl,by omega,by omega,hL.no ?_,rfl⟩⟩
 ·rw [rOf_get ha,rOf_get hb]; exact ahead_yes ht
 ·rw [rOf_get ha,rOf_get hb]; exact ahead_no ht
def HeapQA (h:AH) (S:Nat→Prop) (hp N:Nat) (q:Nat→Option Nat):Prop:=
 ∃ row costs A K Bc Bs seats,HeapA h S hp N row costs A K Bc Bs seats∧HeapR (cOf costs) (rOf row) row.length∧QIs row costs q∧∀ b,S b→b<h.next
theorem HeapQA.keep {q:Nat→Option Nat} (H:HeapQA h S hp N q) (hk:∀ b,S b→b<h.next→h'.get b=h.get b) (hn:h.next≤h'.next):HeapQA h' S hp N q:=by
 obtain ⟨row,costs,A,K,Bc,Bs,seats,h1,h2,h3,h4⟩:=H
 exact ⟨row,costs,A,K,Bc,Bs,seats,h1.keep hk hn,h2,h3,fun b hb=>Nat.lt_of_lt_of_le (h4 b hb) hn⟩
theorem HeapQA.nw {q:Nat→Option Nat} (H:HeapQA h S hp N q) (a:Nw h h'):HeapQA h' S hp N q:=H.keep (fun b _ hb=>a.get b hb) a.next
theorem HeapQA.off {q:Nat→Option Nat} (H:HeapQA h S hp N q) {S':Nat→Prop} (a:Mt S' h h') (hS:∀ b,S b→¬ S' b):HeapQA h' S hp N q:=H.keep (fun b hb hlt=>a.get b hlt (hS b hb)) a.next
theorem hNew (n:Nat) (hn:n≤16384) (hK:∀ h' S' hp,HeapQA h' S' hp n (fun _=>none)→Nw h h'→(∀ b,S' b→h.next≤b)→Q (.pointer (some ⟨hp,0,none⟩)) h'):WC Tryz.prog 30 [.int .i64 n] h Q:=by
 refine w_heap_New ⟨n,by rw [if_neg (by omega)],n,by rw [if_neg (by omega)],n,rfl,by omega,fun h1 e1=>⟨by omega,fun h2 e2 h3 e3=>?_⟩⟩
 obtain ⟨k1,g1,z1⟩:=news e1
 obtain ⟨k2,g2,z2⟩:=news e2
 obtain ⟨k3,g3,z3⟩:=news e3
 have hrep:rep n [Value.int .i64 0]=(List.replicate n (0:Int)).map (Value.int .i64):=by rw [rep_one,List.map_replicate]
 rw [hrep] at g1 g2
 refine hK h3 (fun b=>b=h.next∨b=h1.next∨b=h2.next) h2.next ⟨[],List.replicate n 0,none,0,h.next,h1.next,List.replicate n 0,⟨g3,k3.bk (by omega) (k2.bk (by omega) g1),k3.bk (by omega) g2,⟨rfl,.inl ⟨rfl,rfl,rfl⟩⟩,⟨by omega,by omega,by omega⟩,⟨.inr (.inr rfl),.inl rfl,.inr (.inl rfl)⟩,⟨by omega,by omega,by omega⟩,(fun g hg=>hg.elim),by simp,hn,by simp,by simp,fun c hc=>?_,by simp,fun k hk=>.inr ⟨by simp,by simp [hk]⟩⟩,fun j h1 h2=>by simp at h2,fun k=>by simp,fun b hb=>by rcases hb with hb | hb | hb <;> omega⟩ ((k1.trans k2).trans k3) (fun b hb=>by rcases hb with hb | hb | hb <;> omega)
 have:=List.eq_of_mem_replicate hc
 omega
theorem hPut {q:Nat→Option Nat} {k:Nat} {c:Int} (H:HeapQA h S hp N q) (hk:k<N) (hc0:0≤c) (hc1:c≤1152921504606846976)
  (hK:∀ h' S',HeapQA h' S' hp N (putQ q k c.toNat)→Mt S h h'→(∀ b,S' b→S b∨(h.next≤b∧b<h'.next))→Q (.bool (isPut q k c.toNat)) h'):WC Tryz.prog 38 [.pointer (some ⟨hp,0,none⟩),.int .i64 k,.int .i64 c] h Q:=by
 obtain ⟨row,costs,A,K,Bc,Bs,seats,H1,HR,HQ,HS⟩:=H
 have hN:=H1.nN
 have hf:=H1.few
 have hcl:=H1.cl
 have hsl:=H1.seat.1
 obtain ⟨x,hx,x0,hx0,hx1⟩:=H1.cost hk
 obtain ⟨s,hs,s0⟩:=H1.seatAt hk
 have hxc:cOf costs k=x:=by simp [cOf,List.getD_eq_getElem?_getD,hx]
 refine w_heap_Heap_Put (hKey H1 hk ⟨_,rfl,fun _=>?_,fun h=>Bool.noConfusion h⟩)
 refine aHeld c ⟨_,rfl,?_⟩
 rw [heldI_in hc0 hc1]
 refine ⟨fun h3=>∃ (row1:List Nat) (A1:Option Addr) (K1:Nat) (seats1:List Int) (S1:Nat→Prop) (p:Nat),HeapA h3 S1 hp N row1 costs A1 K1 Bc Bs seats1∧row1[p]? = some k∧seats1[k]? = some ((p:Int)+1)∧UpR (cOf (costs.set k c)) (rOf row1) row1.length p∧Mt S h h3∧(∀ b,S1 b→S b∨(h.next≤b∧b<h3.next)) ∧
  (∀ row2,(∀ y,y∈row2↔y∈row1)→QIs row2 (costs.set k c) (putQ q k c.toNat)∧isPut q k c.toNat=true),?_,?_⟩
 ·rintro h3 ⟨row1,A1,K1,seats1,S1,p,H3,hp1,hs1,hu,hmt,hS1,hQ⟩
  obtain ⟨h4,q1,q2,q3,q4⟩:=ints_st H3.bc (k:=k) (by omega) c
  have n3:=H3.ne
  have H4:HeapA h4 S1 hp N row1 (costs.set k c) A1 K1 Bc Bs seats1:=⟨(q4 hp n3.1).trans H3.blk,q2,(q4 Bs (Ne.symm n3.2.2)).trans H3.bs,H3.own.keep (fun b hb _=>q4 b (H3.far b hb).2.2.1) (by omega),⟨by have:=H3.lt3; omega,by have:=H3.lt3; omega,by have:=H3.lt3; omega⟩,H3.inS,H3.ne,H3.far,by rw [List.length_set]; exact hcl,hN,H3.lt,H3.nodup,fun y hy=>by
   rcases List.mem_or_eq_of_mem_set hy with hy | rfl
   ·exact H3.cbd y hy
   ·exact ⟨hc0,hc1⟩,H3.seat⟩
  have hpl:=(List.getElem?_eq_some_iff.1 hp1).1
  refine ⟨_,_,rfl,_,_,_,H3.c1,_,rfl,_,_,rfl,hk,h4,q1,_,_,_,H4.c2,_,_,rfl,hk,_,ints_ld H4.bs hs1,_,wr_ok (by have:=H3.few; omega) (by have:=H3.few; omega),?_⟩
  rw [show ((p:Int)+1 - 1)=(p:Int) by omega]
  refine hUp H4 hpl hu fun h5 row2 seats2 H5 l5 m5 r5 mt5 z5=>⟨rfl,?_⟩
  obtain ⟨g1,g2⟩:=hQ row2 m5
  have hmt5:Mt S h h5:=(hmt.trans (S':=S1) ⟨by omega,fun b _ hb=>q4 b (fun e=>hb (e ▸ H3.inS.2.1))⟩ (fun b hb hlt=>(hS1 b hb).elim id (fun h=>by omega))).trans mt5 (fun b hb hlt=>(hS1 b hb).elim id (fun h=>by omega))
  have:=hK h5 S1 ⟨row2,costs.set k c,A1,K1,Bc,Bs,seats2,H5,r5,g1,fun b hb=>by
   rcases hS1 b hb with h1 | h1
   ·have:=HS b h1; have:=hmt5.next; omega
   ·omega⟩ hmt5 (fun b hb=>(hS1 b hb).imp id fun h=>⟨h.1,by omega⟩)
  rwa [g2] at this
 ·refine ⟨_,_,rfl,_,_,_,H1.c2,_,rfl,_,_,rfl,hk,_,s0,fun hz=>?_,fun hz=>?_⟩
  ·
   have hnm:k ∉ row:=by
    rcases H1.seat.2 k hk with ⟨p,hp1,hp2⟩ | ⟨hn,_⟩
    ·rw [hs] at hp2; injection hp2 with hp2; omega
    ·exact hn
   refine ⟨_,_,_,H1.c0,fun h6 e6=>?_⟩
   obtain ⟨k6,g6,z6⟩:=news e6
   have o6:RowA h6 A row.length K (kInts row):=H1.own.keep (fun b _ hb=>k6.get b hb) k6.next
   obtain ⟨A9,K9,h7,a1,a2,a3,a4,a5⟩:=o6.app (B:=h.next) (L:=2) (x:=(k:Int)) (ldC_of g6 rfl) (by omega)
   have l3:=H1.lt3
   have n3:=H1.ne
   have far6:∀ b,ownB A b→b≠hp∧b≠Bc∧b≠Bs:=fun b hb=>(H1.far b hb).2
   have k7:∀ b,b<h.next→¬ ownB A b→h7.get b=h.get b:=fun b hb hne=>(a4 b (by omega) hne).trans (k6.get b hb)
   have blk7:Bk h7 hp [.slice A row.length K,.slice (some ⟨Bc,0,none⟩) N (cx N),.slice (some ⟨Bs,0,none⟩) N (cx N)] 185:=(k7 hp l3.1 (fun hh=>(far6 _ hh).1 rfl)).trans H1.blk
   have bc7:Bk h7 Bc (costs.map (Value.int .i64)) 2:=(k7 Bc l3.2.1 (fun hh=>(far6 _ hh).2.1 rfl)).trans H1.bc
   have bs7:Bk h7 Bs (seats.map (Value.int .i64)) 3:=(k7 Bs l3.2.2 (fun hh=>(far6 _ hh).2.2 rfl)).trans H1.bs
   have new9:∀ b,ownB A9 b→(S b∨(h.next≤b∧b<h7.next))∧b≠hp∧b≠Bc∧b≠Bs:=fun b hb=>by
    rcases a5 b hb with h1 | h1
    ·exact ⟨.inl (H1.far b h1).1,far6 b h1⟩
    ·exact ⟨.inr ⟨by omega,h1.2⟩,by omega,by omega,by omega⟩
   obtain ⟨h8,b1,b2,b3,b4⟩:=st_one (v:=.slice A9 (row.length+1) K9) blk7 (o:=0) (by simp) rfl
   have bs8:Bk h8 Bs (seats.map (Value.int .i64)) 3:=(b4 Bs (Ne.symm n3.2.1)).trans bs7
   obtain ⟨h9,c1,c2,c3,c4⟩:=ints_st bs8 (k:=k) (by omega) ((row.length+1:Nat):Int)
   have y2:ldC h8 hp 2=some (.slice (some ⟨Bs,0,none⟩) N (cx N)):=ldC_of b2 rfl
   have y0:ldC h8 hp 0=some (.slice A9 (row.length+1) K9):=ldC_of b2 rfl
   have hlen9:(row ++ [k]).length=row.length+1:=by simp
   refine ⟨A9,row.length+1,K9,h7,a1,h8,b1,_,_,_,y2,_,_,_,y0,_,_,rfl,hk,h9,c1,row ++ [k],A9,K9,seats.set k ((row.length:Int)+1),fun b=>S b∨(h.next≤b∧b<h7.next),row.length,⟨?_,?_,?_,?_,⟨by omega,by omega,by omega⟩,⟨.inl H1.inS.1,.inl H1.inS.2.1,.inl H1.inS.2.2⟩,n3,new9,hcl,hN,fun y hy=>?_,?_,H1.cbd,seats_new H1.seat hk hnm⟩,by simp,by simp [hsl,hk],?_,?_,fun b hb=>hb.imp id fun h=>⟨h.1,by omega⟩,fun row2 hm2=>?_⟩
   ·rw [hlen9]; exact (c4 hp n3.2.1).trans b2
   ·exact (c4 Bc n3.2.2).trans ((b4 Bc (Ne.symm n3.1)).trans bc7)
   ·rw [show ((row.length+1:Nat):Int)=(row.length:Int)+1 by omega] at c2; exact c2
   ·rw [hlen9]
    have:kInts (row ++ [k])=kInts row ++ [(k:Int)]:=by simp [kInts]
    rw [this]
    exact a2.keep (fun b hb _=>(c4 b (new9 b hb).2.2.2).trans (b4 b (new9 b hb).2.1)) (by omega)
   ·rcases List.mem_append.1 hy with hy | hy
    ·exact H1.lt y hy
    ·simp at hy; omega
   ·refine List.nodup_append.2 ⟨H1.nodup,by simp,fun y hy z hz=>?_⟩
    simp at hz
    subst hz
    exact fun e=>hnm (e ▸ hy)
   ·rw [cOf_set (by rw [hcl]; exact hk),rOf_snoc,hlen9]
    exact (HR.other (k:=k) (v:=c) (fun j hj he=>hnm (by
     have h7:row[j]? = some row[j]:=List.getElem?_eq_getElem hj
     rw [rOf_get h7] at he
     rw [← he]
     exact List.getElem_mem hj))).put k
   ·refine ⟨by have:=k6.next; omega,fun b hb hn=>?_⟩
    have e1:b≠Bs:=fun e=>hn (e ▸ H1.inS.2.2)
    have e2:b≠hp:=fun e=>hn (e ▸ H1.inS.1)
    exact ((c4 b e1).trans (b4 b e2)).trans (k7 b hb (fun hh=>hn (H1.far b hh).1))
   ·exact HQ.new (by rw [hcl]; exact hk) hnm (fun y=>by rw [hm2 y]; simp)
  ·
   have hkr:∃ p:Nat,row[p]? = some k∧seats[k]? = some ((p:Int)+1):=by
    rcases H1.seat.2 k hk with hh | ⟨_,hn⟩
    ·exact hh
    ·rw [hs] at hn; injection hn with hn; omega
   obtain ⟨p,hp1,hp2⟩:=hkr
   have hkm:k∈row:=List.mem_of_getElem? hp1
   have hpl:=(List.getElem?_eq_some_iff.1 hp1).1
   refine ⟨_,_,_,H1.c1,_,_,rfl,hk,_,x0,fun hle=>?_,fun hgt=>?_⟩
   ·obtain ⟨g1,g2⟩:=HQ.same (c:=c) hkm (by rw [hxc]; exact hx0) (by rw [hxc]; exact hle)
    have:=hK h S ⟨row,costs,A,K,Bc,Bs,seats,H1,HR,g1,HS⟩ (Mt.refl _ _) (fun b hb=>.inl hb)
    rwa [g2] at this
   ·refine ⟨row,A,K,seats,S,p,H1,hp1,hp2,?_,Mt.refl _ _,fun b hb=>.inl hb,fun row2 hm2=>HQ.less (by rw [hcl]; exact hk) hkm hm2 hc0 (by rw [hxc]; omega)⟩
    rw [cOf_set (by rw [hcl]; exact hk)]
    have hrk:=rOf_get hp1
    rw [← hrk]
    refine HR.less hpl (by rw [hrk,hxc]; omega) fun j hj he=>?_
    have h7:row[j]? = some row[j]:=List.getElem?_eq_getElem hj
    rw [rOf_get h7,hrk] at he
    rw [he] at h7
    exact nodup_get H1.nodup h7 hp1
theorem hPop {q:Nat→Option Nat} (H:HeapQA h S hp N q) (hK0:(∀ k,q k=none)→Q (.tuple #[.int .i64 0,.int .i64 0,.bool false]) h)
  (hK:∀ (k c:Nat) h',k<N→q k=some c→(∀ b c',q b=some c'→c≤c')→HeapQA h' S hp N (del q k)→Mt S h h'→h'.next=h.next→Q (.tuple #[.int .i64 k,.int .i64 c,.bool true]) h'):WC Tryz.prog 40 [.pointer (some ⟨hp,0,none⟩)] h Q:=by
 obtain ⟨row,costs,A,K,Bc,Bs,seats,H1,HR,HQ,HS⟩:=H
 have hN:=H1.nN
 have hf:=H1.few
 refine w_heap_Heap_Pop ⟨_,_,rfl,_,_,_,H1.c0,fun h0=>hK0 fun k=>?_,fun h0=>?_⟩
 ·have:row = []:=List.eq_nil_of_length_eq_zero (by omega)
  rw [HQ k,this]; rfl
 ·obtain ⟨m,hm⟩:∃ m,row.length=m+1:=⟨row.length - 1,by omega⟩
  obtain ⟨k,hk⟩:∃ k,row[0]? = some k:=⟨_,List.getElem?_eq_getElem (by omega)⟩
  obtain ⟨b,hb⟩:∃ b,row[m]? = some b:=⟨_,List.getElem?_eq_getElem (by omega)⟩
  obtain ⟨g,rfl,hg,hil,e0⟩:=H1.own.read (kInts_get hk)
  have hkN:=H1.lt k (List.mem_of_getElem? hk)
  have c0:=H1.c0
  refine ⟨_,_,_,c0,_,_,rfl,by omega,_,e0,_,_,_,c0,_,wr_ok (by omega) (by omega),rfl,?_⟩
  rw [show ((row.length:Int) - 1)=(m:Int) by omega,show (0:Int)=((0:Nat):Int) from rfl]
  refine hSwap H1 hk hb fun h1 H2 m1 z1=>⟨rfl,_,_,_,H2.c0,m,rfl,?_⟩
  have hl1:(swL row 0 m).length=m+1:=by rw [swL_len]; exact hm
  have l0:0<row.length:=by omega
  have lm:m<row.length:=by omega
  have hk1:(swL row 0 m)[m]? = some k:=by
   rw [swL_get l0 lm]
   by_cases h:m=0
   ·subst h; rw [if_pos rfl]; exact hk
   ·rw [if_neg h,if_pos rfl]; exact hk
  obtain ⟨o2,hsl⟩:=H2.own.cut (m:=m) (by omega) (by omega)
  have n3:=H2.ne
  have far2:=H2.far g rfl
  obtain ⟨h2,s2,b2,z2,k2⟩:=st_one (v:=.slice (some ⟨g,0,none⟩) m K) H2.blk (o:=0) (by simp) rfl
  have bs2:=(k2 Bs (Ne.symm n3.2.1)).trans H2.bs
  have hsl2:=H2.seat.1
  obtain ⟨h3,s3,b3,z3,k3⟩:=ints_st bs2 (k:=k) (by omega) 0
  have y2:ldC h2 hp 2=some (.slice (some ⟨Bs,0,none⟩) N (cx N)):=ldC_of b2 rfl
  have l3:=H2.lt3
  have hlt:((swL row 0 m).take m).length=m:=by simp [hl1]
  have H3:HeapA h3 S hp N ((swL row 0 m).take m) costs (some ⟨g,0,none⟩) K Bc Bs ((((seats.set b ((0:Int)+1)).set k ((m:Int)+1))).set k 0):=by
   refine ⟨by rw [hlt]; exact (k3 hp n3.2.1).trans b2,(k3 Bc n3.2.2).trans ((k2 Bc (Ne.symm n3.1)).trans H2.bc),b3,?_,⟨by omega,by omega,by omega⟩,H2.inS,n3,H2.far,H2.cl,hN,fun y hy=>H2.lt y (List.mem_of_mem_take hy),H2.nodup.sublist (List.take_sublist _ _),H2.cbd,seats_cut H2.seat H2.nodup hl1 hk1 hkN⟩
   rw [hlt,← kInts_take]
   exact o2.keep (fun c hc _=>by have:c=g:=hc; rw [this]; exact (k3 g far2.2.2.2).trans (k2 g far2.2.1)) (by omega)
  have hdn:DownR (cOf costs) (rOf ((swL row 0 m).take m)) ((swL row 0 m).take m).length 0:=by
   rw [hm] at HR
   rw [hlt]
   refine HR.pop.congr fun x hx=>?_
   rw [← rOf_sw l0 lm]
   unfold rOf
   rw [List.getD_eq_getElem?_getD,List.getD_eq_getElem?_getD,List.getElem?_take]
   simp [hx]
  have hmem2:∀ x,x∈(swL row 0 m).take m↔x∈row∧x≠k:=fun x=>by rw [mem_cut H2.nodup hl1 hk1,swL_mem l0 lm]
  refine ⟨_,_,_,hsl,h2,s2,_,_,_,y2,k,rfl,_,_,rfl,hkN,h3,s3,hDown H3 hdn fun h4 row2 seats2 H4 l4 m4 r4 mt4 z4=>⟨rfl,_,_,_,H4.c1,_,_,rfl,hkN,?_⟩⟩
  obtain ⟨x,hx,x1,x2,x3⟩:=H4.cost hkN
  have hxc:cOf costs k=x:=by simp [cOf,List.getD_eq_getElem?_getD,hx]
  have hkr:k∈row:=List.mem_of_getElem? hk
  refine ⟨x,x1,?_⟩
  have hmt:Mt S h h4:=(m1.then ⟨by omega,fun c _ hc=>(k3 c (fun e=>hc (e ▸ H2.inS.2.2))).trans (k2 c (fun e=>hc (e ▸ H2.inS.1)))⟩).then mt4
  have:=hK k x.toNat h4 hkN (by rw [HQ k,if_pos hkr,hxc]) (fun y c' hy=>?_) ⟨row2,costs,_,K,Bc,Bs,seats2,H4,r4,fun y=>?_,fun y hy=>?_⟩ hmt (by omega)
  ·rwa [Int.toNat_of_nonneg x2] at this
  ·rw [HQ y] at hy
   split at hy
   ·rename_i hyr
    injection hy with hy
    obtain ⟨j,hj⟩:=List.getElem?_of_mem hyr
    have h8:=HR.top j (List.getElem?_eq_some_iff.1 hj).1
    rw [rOf_get hk,rOf_get hj] at h8
    unfold HLe at h8
    omega
   ·cases hy
  ·unfold del
   by_cases hyk:y=k
   ·rw [if_pos hyk,if_neg (fun hh=>((hmem2 y).1 ((m4 y).1 hh)).2 hyk)]
   ·rw [if_neg hyk,HQ y]
    by_cases hyr:y∈row
    ·rw [if_pos hyr,if_pos ((m4 y).2 ((hmem2 y).2 ⟨hyr,hyk⟩))]
    ·rw [if_neg hyr,if_neg (fun hh=>hyr ((hmem2 y).1 ((m4 y).1 hh)).1)]
  ·have:=HS y hy
   omega
end
end Eva
end
section
open Go Go.RowKit
namespace Eva
section
variable {h h':AH} {S:Nat→Prop} {hp N:Nat} {Q:Value→AH→Prop}
theorem RowA.cut0 {A:Option Addr} {n K:Nat} {xs:List Int} (o:RowA h A n K xs):RowA h A 0 K []∧vSliceS Tryz.prog 3 A n K none (some 0) none=some (.slice A 0 K):=by
 rcases Nat.eq_zero_or_pos n with h0 | h0
 ·subst h0
  have hx:xs = []:=List.eq_nil_of_length_eq_zero o.1
  subst hx
  refine ⟨o,?_⟩
  rcases o.2 with ⟨rfl,_,rfl⟩ | ⟨g,c,rest,rfl,h1,h2,h3,h4,h5⟩
  ·obtain ⟨i,hi,-⟩:=tyB_parts tyI8
   unfold vSliceS
   rw [hi]
   rfl
  ·have o1:RowA h (some ⟨g,0,none⟩) 0 K ([]:List Int):=o
   obtain ⟨i,hi,hsz⟩:∃ i,Tryz.prog.info? 3=some i∧i.size=1:=by
    obtain ⟨i,q1,q2,-⟩:=tyB_parts tyI8
    exact ⟨i,q1,q2⟩
   unfold vSliceS
   rw [hi]
   have hc2:K / 2=c:=by rw [h2]; unfold cl; omega
   have hp:Nat.beq (K % 2) 0=false:=by
    have:K % 2=1:=by rw [h2]; unfold cl; omega
    rw [this]; rfl
   have hb1:Nat.ble 0 (K / 2)=true:=Nat.ble_eq_true_of_le (Nat.zero_le _)
   have hlt:Nat.blt 0 (K / 2)=true:=Nat.ble_eq_true_of_le (by omega)
   show cond (Option.isNone (none:Option Nat) || Option.isSome (some 0)) (sliceV i.size (some ⟨g,0,none⟩) 0 K ((none:Option Nat).getD 0) (some 0) none) none=_
   simp only [Option.isNone_none,Bool.true_or,cond_true,Option.getD_none]
   unfold sliceV
   have hb0:Nat.ble 0 0=true:=rfl
   simp only [Option.getD_some,hb1,hb0,Bool.and_self,cond_true,hp,cond_false]
   unfold sliceY
   rw [hlt]
   simp only [cond_true,Nat.sub_zero,Nat.zero_mul,Option.map_some]
   rw [hc2,h2]
   rfl
 ·have:=o.cut (m:=0) (Nat.zero_le _) h0
  simpa using this
theorem hClear {q:Nat→Option Nat} (H:HeapQA h S hp N q) (hK:∀ h',HeapQA h' S hp N (fun _=>none)→Mt S h h'→h'.next=h.next→Q (.tuple #[]) h'):WC Tryz.prog 158 [.pointer (some ⟨hp,0,none⟩)] h Q:=by
 obtain ⟨row,costs,A,K,Bc,Bs,seats,H1,HR,HQ,HS⟩:=H
 have hN:=H1.nN
 have hf:=H1.few
 have n3:=H1.ne
 refine w_heap_Heap_Clear ⟨_,_,rfl,_,_,_,H1.c0,fun m x h1=>∃ (i:Nat) (seats':List Int),x=i∧m=row.length - i∧i≤row.length∧seats'.length=N∧(∀ k,k<N→seats'[k]? = if k∈row.take i then some 0 else seats[k]?)∧Bk h1 Bs (seats'.map (Value.int .i64)) 3∧h1.next=h.next∧(∀ b,b≠Bs→h1.get b=h.get b),row.length,⟨0,seats,rfl,rfl,Nat.zero_le _,H1.seat.1,fun k _=>by simp,H1.bs,rfl,fun _ _=>rfl⟩,?_⟩
 rintro m x h1 ⟨i,seats',rfl,hm,hi,hl,hs,hb,hz,ho⟩
 subst m
 have y0:ldC h1 hp 0=some (.slice A row.length K):=(ldC_congr (ho hp n3.2.1) _).trans H1.c0
 have y2:ldC h1 hp 2=some (.slice (some ⟨Bs,0,none⟩) N (cx N)):=(ldC_congr (ho hp n3.2.1) _).trans H1.c2
 have own1:RowA h1 A row.length K (kInts row):=H1.own.keep (fun b hb _=>ho b (H1.far b hb).2.2.2) (by omega)
 refine ⟨fun hlt=>?_,fun hge=>?_⟩
 ·obtain ⟨k,hk⟩:∃ k,row[i]? = some k:=⟨_,List.getElem?_eq_getElem (by omega)⟩
  obtain ⟨g,rfl,hg,hil,e0⟩:=own1.read (kInts_get hk)
  have hkN:=H1.lt k (List.mem_of_getElem? hk)
  obtain ⟨h2,q1,q2,q3,q4⟩:=ints_st hb (k:=k) (by omega) 0
  refine ⟨i,rfl,_,_,rfl,hil,_,e0,_,_,_,y2,k,rfl,_,_,rfl,hkN,h2,q1,_,wr_ok (by omega) (by omega),row.length - (i+1),by omega,i+1,_,by omega,rfl,by omega,by rw [List.length_set]; exact hl,fun y hy=>?_,q2,by omega,fun b hb=>(q4 b hb).trans (ho b hb)⟩
  rw [List.getElem?_set,List.take_add_one,hk]
  by_cases e:k=y
  ·subst e; simp [hl,hkN]
  ·rw [if_neg e,hs y hy]
   have:y∈row.take i ++ (some k).toList↔y∈row.take i:=by simp; intro h; exact absurd h.symm e
   by_cases hm:y∈row.take i
   ·rw [if_pos hm,if_pos (this.2 hm)]
   ·rw [if_neg hm,if_neg (fun h=>hm (this.1 h))]
 ·have hie:i=row.length:=by omega
  subst hie
  obtain ⟨o2,hsl⟩:=own1.cut0
  have b1:Bk h1 hp [.slice A row.length K,.slice (some ⟨Bc,0,none⟩) N (cx N),.slice (some ⟨Bs,0,none⟩) N (cx N)] 185:=(ho hp n3.2.1).trans H1.blk
  obtain ⟨h2,s2,b2,z2,k2⟩:=st_one (v:=.slice A 0 K) b1 (o:=0) (by simp) rfl
  refine ⟨_,_,_,y0,_,_,_,hsl,h2,s2,hK h2 ⟨[],costs,A,K,Bc,Bs,seats',⟨b2,(k2 Bc (Ne.symm n3.1)).trans ((ho Bc n3.2.2).trans H1.bc),(k2 Bs (Ne.symm n3.2.1)).trans hb,o2.keep (fun b hb _=>k2 b (H1.far b hb).2.1) (by omega),⟨by have:=H1.lt3; omega,by have:=H1.lt3; omega,by have:=H1.lt3; omega⟩,H1.inS,n3,H1.far,H1.cl,hN,by simp,by simp,H1.cbd,hl,fun k hk=>.inr ⟨by simp,?_⟩⟩,fun j h1 h2=>by simp at h2,fun k=>by simp,fun b hb=>by rw [z2,hz]; exact HS b hb⟩ ⟨by omega,fun b _ hn=>(k2 b (fun e=>hn (e ▸ H1.inS.1))).trans (ho b (fun e=>hn (e ▸ H1.inS.2.2)))⟩ (by omega)⟩
  rw [hs k hk,List.take_of_length_le (Nat.le_refl _)]
  by_cases hm:k∈row
  ·rw [if_pos hm]
  ·rw [if_neg hm]
   rcases H1.seat.2 k hk with ⟨p,h1,-⟩ | ⟨-,h1⟩
   ·exact absurd (List.mem_of_getElem? h1) hm
   ·exact h1
end
end Eva
end
section
open Go Go.RowKit
def dedN (zs:List Int):Nat→List Int
 | 0=>[]
 | k+1=>if 0<k∧zs[k]? = zs[k - 1]? then dedN zs k else dedN zs k ++ (zs[k]?).toList
theorem dedN_mem {zs:List Int} {x:Int}:∀ k,x∈dedN zs k↔x∈zs.take k
 | 0=>by simp [dedN]
 | k+1=>by
  unfold dedN
  rw [List.take_add_one,List.mem_append]
  split
  ·rename_i h
   rw [dedN_mem k]
   constructor
   ·exact .inl
   ·rintro (h1 | h1)
    ·exact h1
    ·rw [h.2] at h1
     have h2:zs[k - 1]? = some x:=by simpa using h1
     refine List.mem_of_getElem? (i:=k - 1) ?_
     rw [List.getElem?_take,if_pos (by omega)]
     exact h2
  ·rw [List.mem_append,dedN_mem k]
theorem sorted_get {zs:List Int} (hs:zs.Pairwise (·≤·)) {i j:Nat} {x y:Int} (hi:zs[i]? = some x) (hj:zs[j]? = some y) (hij:i≤j):x≤y:=by
 rcases Nat.eq_or_lt_of_le hij with rfl | h
 ·rw [hi] at hj; injection hj with hj; omega
 ·obtain ⟨hil,rfl⟩:=List.getElem?_eq_some_iff.1 hi
  obtain ⟨hjl,rfl⟩:=List.getElem?_eq_some_iff.1 hj
  exact List.pairwise_iff_getElem.1 hs i j hil hjl h
theorem dedN_asc {zs:List Int} (hs:zs.Pairwise (·≤·)):∀ k,(dedN zs k).Pairwise (· < ·)
 | 0=>by simp [dedN]
 | k+1=>by
  unfold dedN
  split
  ·exact dedN_asc hs k
  ·rename_i h
   cases hk:zs[k]? with
   | none=>simpa using dedN_asc hs k
   | some x=>
    refine List.pairwise_append.2 ⟨dedN_asc hs k,by simp,fun y hy z hz=>?_⟩
    have hzx:z=x:=by simpa using hz
    subst hzx
    obtain ⟨i,hi⟩:=List.getElem?_of_mem ((dedN_mem k).1 hy)
    rw [List.getElem?_take] at hi
    split at hi
    ·rename_i hik
     have h1:y≤z:=sorted_get hs hi hk (by omega)
     rcases Int.lt_or_eq_of_le h1 with h2 | h2
     ·exact h2
     ·exfalso
      have hkl:=(List.getElem?_eq_some_iff.1 hk).1
      obtain ⟨u,hu⟩:∃ u,zs[k - 1]? = some u:=⟨_,List.getElem?_eq_getElem (by omega)⟩
      have h3:=sorted_get hs hi hu (by omega)
      have h4:=sorted_get hs hu hk (by omega)
      exact h ⟨by omega,by rw [hk,hu]; congr 1; omega⟩
    ·cases hi
def kidU (low row:List Int) (c:Int):Nat→List Int
 | 0=>[]
 | k+1=>if row[k]? = some c then kidU low row c k ++ (low[k]?).toList else kidU low row c k
theorem kidU_mem {low row:List Int} {c x:Int}:∀ k,x∈kidU low row c k↔∃ v,v<k∧row[v]? = some c∧low[v]? = some x
 | 0=>by simp [kidU]
 | k+1=>by
  unfold kidU
  split
  ·rename_i h
   rw [List.mem_append,kidU_mem k,Option.mem_toList]
   constructor
   ·rintro (⟨v,h1,h2,h3⟩ | h1)
    ·exact ⟨v,by omega,h2,h3⟩
    ·exact ⟨k,by omega,h,by simpa using h1⟩
   ·rintro ⟨v,h1,h2,h3⟩
    by_cases e:v=k
    ·subst e; exact .inr (by simpa using h3)
    ·exact .inl ⟨v,by omega,h2,h3⟩
  ·rename_i h
   rw [kidU_mem k]
   constructor
   ·rintro ⟨v,h1,h2,h3⟩; exact ⟨v,by omega,h2,h3⟩
   ·rintro ⟨v,h1,h2,h3⟩
    by_cases e:v=k
    ·subst e; exact absurd h2 h
    ·exact ⟨v,by omega,h2,h3⟩
theorem kidU_len (low row:List Int) (c:Int):∀ k,(kidU low row c k).length≤k
 | 0=>by simp [kidU]
 | k+1=>by
  unfold kidU
  have:=kidU_len low row c k
  split
  ·rw [List.length_append]
   have:(low[k]?).toList.length≤1:=by cases low[k]? <;> simp
   omega
  ·omega
theorem nats_ints {l:List Int} (h:∀ x∈l,0≤x):ints (l.map Int.toNat)=l:=by
 unfold ints
 rw [List.map_map]
 conv=>rhs; rw [← List.map_id l]
 refine List.map_congr_left fun x hx=>?_
 have:=h x hx
 show ((x.toNat:Nat):Int)=x
 omega
theorem cel_row {p:List (List Int)} {k v:Nat} {row:List Int} {x:Int} (hr:p[k - 1]? = some row) (hx:row[v]? = some x):cel p k v=x.toNat:=by
 unfold cel
 rw [hr]
 simp [hx]
namespace Eva
section
variable {h h':AH} {Q:Value→AH→Prop} {F:Nat→Prop} {A:Option Addr} {n K:Nat} {zs:List Int} {p:List (List Int)}
theorem intsOf_map:∀ (l:List Int),intsOf (l.map (Value.int .i64))=some l
 | []=>rfl
 | x :: l=>by
  show (intsOf (l.map (Value.int .i64))).map (x :: ·)=_
  rw [intsOf_map l]; rfl
theorem aSort (o:RowA h A n K zs) (hn:0<n) (hnb:n≤1000000) (hK:∀ h',RowA h' A n K (zs.mergeSort fun x y=>decide (x≤y))→Mt (ownB A) h h'→h'.next=h.next→Q (.tuple #[]) h'):WC Tryz.prog 276 [.slice A n K] h Q:=by
 obtain ⟨hl,o⟩:=o
 rcases o with ⟨_,h1,_⟩ | ⟨g,c,rest,rfl,h1,h2,h3,h4,h5⟩
 ·omega
 ·have hs:orc 276 [.slice (some ⟨g,0,none⟩) n K] h=some (.tuple #[],h.put g (.cells ((zs.mergeSort fun x y=>decide (x≤y)).map (Value.int .i64) ++ rest) 3 false)):=by
   unfold orc
   rw [Nat.beq_refl]
   simp only [cond_true]
   unfold sortA
   simp only [h5]
   have e1:((zs.map (Value.int .i64) ++ rest).drop 0).take n=zs.map (Value.int .i64):=by
    rw [List.drop_zero,List.take_append_of_le_length (by simp; omega),List.take_of_length_le (by simp; omega)]
   rw [e1,intsOf_map]
   have e3:(zs.map (Value.int .i64) ++ rest).drop (0+n)=rest:=by
    rw [show 0+n=(zs.map (Value.int .i64)).length by simp; omega,List.drop_left]
   unfold sortAt
   have b1:Nat.ble (0+n) (zs.map (Value.int .i64) ++ rest).length=true:=Nat.ble_eq_true_of_le (by simp; omega)
   have b2:Nat.ble n (K / 2)=true:=Nat.ble_eq_true_of_le (by rw [h2]; unfold cl; omega)
   have b3:Nat.ble n 1000000=true:=Nat.ble_eq_true_of_le hnb
   simp only [b1,b2,b3,Bool.and_self,cond_true,List.take_zero,List.nil_append,e3]
  refine ⟨0,_,_,by unfold callsO; rw [hs],hK (h.put g (.cells ((zs.mergeSort fun x y=>decide (x≤y)).map (Value.int .i64) ++ rest) 3 false)) ⟨by rw [List.length_mergeSort]; exact hl,.inr ⟨g,c,rest,rfl,h1,h2,h3,h4,?_⟩⟩ ⟨Nat.le_refl _,fun b hb hn=>by rw [get_put,if_neg (fun e:b=g=>hn e)]⟩ rfl⟩
  show (h.put g _).get g=_
  rw [get_put,if_pos rfl]
theorem sl_from {g k c:Nat} (hk:k≤n) (hn:n≤c) (hkc:k<c):vSliceS Tryz.prog 3 (some ⟨g,0,none⟩) n (cl c) (some k) none none=some (.slice (some ⟨g,k,none⟩) (n - k) (cl (c - k))):=by
 obtain ⟨i,hi,hsz,-⟩:=tyB_parts tyI8
 unfold vSliceS
 rw [hi]
 have hc2:(cl c) / 2=c:=by unfold cl; omega
 have hp:Nat.beq ((cl c) % 2) 0=false:=by
  have:(cl c) % 2=1:=by unfold cl; omega
  rw [this]; rfl
 have b1:Nat.ble n ((cl c) / 2)=true:=Nat.ble_eq_true_of_le (by omega)
 have b2:Nat.ble k n=true:=Nat.ble_eq_true_of_le hk
 have b3:Nat.blt k c=true:=Nat.ble_eq_true_of_le hkc
 show cond (Option.isNone (none:Option Nat) || Option.isSome (none:Option Nat)) (sliceV i.size (some ⟨g,0,none⟩) n (cl c) ((some k).getD 0) none none) none=_
 simp only [Option.isNone_none,Bool.true_or,cond_true,Option.getD_some]
 unfold sliceV
 simp only [Option.getD_none,b1,b2,Bool.and_self,cond_true,hp,cond_false]
 unfold sliceY
 rw [hc2,b3,hsz,Nat.mul_one]
 simp only [cond_true,Option.map_some]
 rw [Addr_add,Nat.zero_add]
theorem clear_ints {g o m:Nat} {cells:List Value} {L:Nat} (hb:Bk h g cells 3) (ho:o+m≤cells.length) :
  ∃ h',lClear Tryz.prog h (some (.slice 3)) (.slice (some ⟨g,o,none⟩) m L)=some (.tuple #[],h')∧Bk h' g (cells.take o ++ List.replicate m (.int .i64 0) ++ cells.drop (o+m)) 3∧h'.next=h.next∧∀ b,b≠g→h'.get b=h.get b:=by
 have hz:∃ i,Tryz.prog.info? 3=some i∧i.zero=some (.int .i64 0)∧i.size=1:=by
  obtain ⟨i,hi,hs,-⟩:=tyB_parts tyI8
  refine ⟨i,hi,?_,hs⟩
  have:(match Tryz.prog.info? 3 with | some i=>i.zero | none=>none)=some (.int .i64 0):=by kernel_rfl
  rw [hi] at this
  exact this
 obtain ⟨i,hi,hz,hs⟩:=hz
 unfold lClear
 simp only [hi,hz,hs]
 have zo:zeroOk (Value.int .i64 0) 1=true:=by kernel_rfl
 rw [zo]
 simp only [cond_true]
 rcases Nat.eq_zero_or_pos m with h0 | h0
 ·subst h0
  refine ⟨h,rfl,?_,rfl,fun _ _=>rfl⟩
  simpa using hb
 ·have hb0:Nat.beq m 0=false:=by
   cases hb0:Nat.beq m 0 with
   | false=>rfl
   | true=>have:=beq_eq hb0; omega
  rw [hb0]
  simp only [cond_false]
  have e1:rep m ((Value.int .i64 0).cells.toList)=List.replicate m (Value.int .i64 0):=rep_one _ _
  rw [e1]
  have:=stN (h:=h) (b:=g) (o:=o) (vs:=List.replicate m (Value.int .i64 0)) hb (by simpa using ho) (fun v hv=>by rw [List.eq_of_mem_replicate hv]; rfl)
  unfold stC at this
  rw [this]
  refine ⟨_,rfl,?_,rfl,fun b hb=>by rw [get_put,if_neg hb]⟩
  show (h.put g _).get g=_
  rw [get_put,if_pos rfl]
  simp
theorem aCompact (o:RowA h A n K zs) (hn:n≤100000) (hK:∀ m h',RowA h' A m K (dedN zs zs.length)→Mt (ownB A) h h'→h'.next=h.next→Q (.slice A m K) h'):WC Tryz.prog 277 [.slice A n K] h Q:=by
 have hl:=o.1
 have done:dedN zs n=zs→Q (.slice A n K) h:=fun hd=>hK n h (by rw [hl,hd]; exact o) (Mt.refl _ _) rfl
 have d1:∀ k,0<k→k<n→dedN zs k=zs.take k→¬ zs[k]? = zs[k - 1]?→dedN zs (k+1)=zs.take (k+1):=fun k h0 hk hd hne=>by
  unfold dedN
  rw [if_neg (fun h=>hne h.2),hd,List.take_add_one]
 have d0:dedN zs 1=zs.take 1:=by
  unfold dedN
  rw [if_neg (fun h=>absurd h.1 (Nat.lt_irrefl _))]
  simp [dedN,List.take_add_one]
 refine w_slices_Compact_int_int ⟨fun hlt=>?_,fun hge=>?_⟩
 ·refine done ?_
  rcases Nat.eq_zero_or_pos n with h0 | h0
  ·rw [h0]
   have:zs = []:=List.eq_nil_of_length_eq_zero (by omega)
   rw [this]; rfl
  ·have:n=1:=by omega
   rw [this,d0,List.take_of_length_le (by omega)]
 refine ⟨fun m x h1=>∃ k:Nat,x=k∧0<k∧k≤n∧m=n - k∧dedN zs k=zs.take k∧h1=h,n - 1,⟨1,rfl,by omega,by omega,rfl,d0,rfl⟩,?_⟩
 rintro m x h1 ⟨k,rfl,hk0,hk,rfl,hd,rfl⟩
 refine ⟨fun hlt=>?_,fun hge2=>?_⟩
 rotate_left
 ·refine done ?_
  have:k=n:=by omega
  rw [← this,hd,List.take_of_length_le (by omega)]
 have hkn:k<n:=by omega
 obtain ⟨g,c,rest,rfl,g1,g2,g3,g4,g5⟩:∃ g c rest,A=some ⟨g,0,none⟩∧g<h1.next∧K=cl c∧0<c∧rest.length+n=c∧Bk h1 g (zs.map (Value.int .i64) ++ rest) 3:=by
  rcases o.2 with ⟨_,h1,_⟩ | h1
  ·omega
  ·exact h1
 have rd:∀ {ws:List Int} {h2:AH} {j:Nat} {y:Int},Bk h2 g (ws.map (Value.int .i64) ++ rest) 3→ws[j]? = some y→ldC h2 g (0+j)=some (.int .i64 y):=fun {ws h2 j y} hb hy=>by
  have:=(List.getElem?_eq_some_iff.1 hy).1
  rw [ldC_bk hb,Nat.zero_add,List.getElem?_append_left (by simpa using this)]
  simp [hy]
 obtain ⟨y,hy⟩:∃ y,zs[k]? = some y:=⟨_,List.getElem?_eq_getElem (by omega)⟩
 obtain ⟨z,hz⟩:∃ z,zs[k - 1]? = some z:=⟨_,List.getElem?_eq_getElem (by omega)⟩
 have wk:IntKind.i64.wrap ((k:Int) - 1)=((k - 1:Nat):Int):=by rw [Int.natCast_sub hk0]; exact wr_ok (by omega) (by omega)
 have wk1:IntKind.i64.wrap ((k:Int)+1)=((k+1:Nat):Int):=by rw [Int.natCast_succ]; exact wr_ok (by omega) (by omega)
 refine ⟨k,rfl,g,0,rfl,hkn,_,rd g5 hy,_,wk,k - 1,rfl,by omega,_,rd g5 hz,fun he=>?_,fun he=>?_⟩
 rotate_left
 ·exact ⟨_,wk1,n - (k+1),by omega,k+1,rfl,by omega,hkn,rfl,d1 k hk0 hkn hd (by rw [hy,hz]; intro e; injection e with e; exact he e),rfl⟩
 rw [g2]
 refine ⟨_,_,_,sl_from (by omega) (by omega) (by omega),fun m i x h2=>∃ (q j:Nat) (ws:List Int),x=j∧i=q∧0<j∧j≤n - k∧m=n - k - j∧ws.length=n∧ws.take q=dedN zs (k+j)∧q=(dedN zs (k+j)).length∧q≤k+j - 1∧(∀ r,k+j - 1≤r→ws[r]? = zs[r]?)∧Bk h2 g (ws.map (Value.int .i64) ++ rest) 3∧h2.next=h1.next∧∀ b,b≠g→h2.get b=h1.get b,n - k - 1,⟨k,1,zs,rfl,rfl,by omega,by omega,rfl,hl,?_,?_,by omega,fun _ _=>rfl,g5,rfl,fun _ _=>rfl⟩,?_⟩
 ·rw [dedN,if_pos ⟨hk0,by rw [hy,hz,he]⟩,hd]
 ·rw [dedN,if_pos ⟨hk0,by rw [hy,hz,he]⟩,hd,List.length_take]; omega
 rintro m i x h2 ⟨q,j,ws,rfl,rfl,hj0,hj,rfl,hwl,hwt,hq,hql,hwr,b2,z2,o2⟩
 refine ⟨fun hlt=>?_,fun hge=>?_⟩
 ·have hjl:j<n - k:=by omega
  have wj:IntKind.i64.wrap ((j:Int) - 1)=((j - 1:Nat):Int):=by rw [Int.natCast_sub hj0]; exact wr_ok (by omega) (by omega)
  have wj1:IntKind.i64.wrap ((j:Int)+1)=((j+1:Nat):Int):=by rw [Int.natCast_succ]; exact wr_ok (by omega) (by omega)
  have wq1:IntKind.i64.wrap ((q:Int)+1)=((q+1:Nat):Int):=by rw [Int.natCast_succ]; exact wr_ok (by omega) (by omega)
  obtain ⟨u,hu⟩:∃ u,zs[k+j]? = some u:=⟨_,List.getElem?_eq_getElem (by omega)⟩
  obtain ⟨v,hv⟩:∃ v,zs[k+j - 1]? = some v:=⟨_,List.getElem?_eq_getElem (by omega)⟩
  have ru:ldC h2 g (k+j)=some (.int .i64 u):=by have:=rd b2 ((hwr (k+j) (by omega)).trans hu); rwa [Nat.zero_add] at this
  have rv:ldC h2 g (k+(j - 1))=some (.int .i64 v):=by have:=rd b2 ((hwr (k+j - 1) (by omega)).trans hv); rwa [Nat.zero_add,show k+j - 1=k+(j - 1) by omega] at this
  refine ⟨j,rfl,g,k,rfl,hjl,_,ru,_,wj,j - 1,rfl,by omega,_,rv,fun he=>?_,fun he=>⟨hjl,_,ru,q,rfl,by omega,?_⟩⟩
  ·have e1:dedN zs (k+(j+1))=dedN zs (k+j):=by
    show dedN zs (k+j+1)=_
    rw [dedN,if_pos ⟨by omega,by rw [hu,hv,he]⟩]
   exact ⟨_,wj1,n - k - (j+1),by omega,q,j+1,ws,rfl,rfl,by omega,by omega,rfl,hwl,by rw [e1]; exact hwt,by rw [e1]; exact hq,by omega,fun r hr=>hwr r (by omega),b2,z2,o2⟩
  ·obtain ⟨h3,s3,b3,z3,o3⟩:=st_one (v:=.int .i64 u) b2 (o:=0+q) (by simp; omega) rfl
   rw [Nat.zero_add,List.set_append_left _ _ (by simp; omega),← List.map_set] at b3
   have e1:dedN zs (k+(j+1))=dedN zs (k+j) ++ [u]:=by
    show dedN zs (k+j+1)=_
    rw [dedN,if_neg (fun h=>he (by have:=h.2; rw [hu,hv] at this; injection this)),hu]
    rfl
   refine ⟨h3,s3,_,wq1,_,wj1,n - k - (j+1),by omega,q+1,j+1,ws.set q u,rfl,rfl,by omega,by omega,rfl,by simp [hwl],?_,by rw [e1,List.length_append,← hq]; rfl,by omega,fun r hr=>?_,b3,by omega,fun b hb=>(o3 b hb).trans (o2 b hb)⟩
   ·rw [e1,← hwt,List.take_add_one,List.getElem?_set_self (by omega),List.take_set_of_le (Nat.le_refl _)]
    rfl
   ·rw [List.getElem?_set_ne (by omega)]
    exact hwr r (by omega)
 ·obtain rfl:j=n - k:=by omega
  rw [show k+(n - k)=n by omega] at hwt hq hql hwr
  obtain ⟨h4,s4,b4,z4,o4⟩:=clear_ints (o:=q) (m:=n - q) (L:=cl (c - q)) b2 (by simp; omega)
  have hcut:vSliceS Tryz.prog 3 (some ⟨g,0,none⟩) n (cl c) none (some q) none=some (.slice (some ⟨g,0,none⟩) q (cl c)):=by
   have oR:RowA h1 (some ⟨g,0,none⟩) n K zs:=o
   have:=(oR.cut (m:=q) (by omega) (by omega)).2
   rwa [g2] at this
  refine ⟨q,rfl,_,_,_,sl_from (by omega) (by omega) (by omega),h4,s4,_,_,_,hcut,?_⟩
  have:=hK q h4 ⟨by rw [hl]; exact hq.symm,.inr ⟨g,c,List.replicate (n - q) (.int .i64 0) ++ rest,rfl,by omega,g2,g3,by simp; omega,?_⟩⟩ ⟨by omega,fun b hb hne=>(o4 b (fun e=>hne e)).trans (o2 b (fun e=>hne e))⟩ (by omega)
  ·rwa [g2] at this
  ·have e2:(ws.map (Value.int .i64) ++ rest).take q=(dedN zs zs.length).map (Value.int .i64):=by
    rw [List.take_append_of_le_length (by simp; omega),← List.map_take,hwt,hl]
   have e3:(ws.map (Value.int .i64) ++ rest).drop (q+(n - q))=rest:=by
    rw [show q+(n - q)=(ws.map (Value.int .i64)).length by simp; omega,List.drop_left]
   rw [e2,e3,List.append_assoc] at b4
   exact b4
end
end Eva
end
section
open Go Go.RowKit
namespace Eva
section
variable {h h':AH} {Q:Value→AH→Prop} {F:Nat→Prop} {A:Option Addr} {n K nv:Nat} {p:List (List Int)}
theorem ldN1 {b o:Nat} {u:Value} (h0:ldC h b o=some u):ldN h b o 1=some [u]:=
 ldN_of rfl (by omega) fun j x hj=>by
  match j,hj with
  | 0,hj=>injection hj with hj; subst hj; exact h0
theorem aNumbers (hs:Sa cRows F h A n K p) (hn:n≤1000) {k:Nat} (h1:1≤k) (h2:k≤n) (hK:∀ A' n' K' row h',p[k - 1]? = some row→Sa cI F h' A' n' K' row→Nw h h'→Q (.slice A' n' K') h'):WC Tryz.prog 275 [.agg #[.slice A n K],.int .i64 k] h Q:=by
 refine w_part_numbers fun h1' e1=>?_
 obtain ⟨k1,g1,z1⟩:=news e1
 obtain ⟨b,o,A',n',K',row,rfl,hF,hb,hr,e0,s0⟩:=(hs.nw k1).row (k:=k - 1) (by omega)
 exact ⟨fun h=>absurd h (by omega),fun _=>⟨_,_,_,ldC_of g1 rfl,fun h=>absurd h (by omega),fun _=>⟨_,_,_,ldC_of g1 rfl,_,wr_ok (by omega) (by omega),k - 1,by omega,_,_,rfl,by omega,_,_,_,e0,hK _ _ _ _ _ hr s0 k1⟩⟩⟩
theorem most_row {k:Nat} {row:List Int} (hr:p[k - 1]? = some row):(most p k:Int)=mostOf row:=by
 unfold most
 rw [hr]
 have:=mostOf_nonneg row
 simp only [Option.getD_some]
 omega
theorem part_row (hp:PartOk nv p) {k:Nat} {row:List Int} (hr:p[k - 1]? = some row):row.length=nv∧∀ v,v<nv→∃ x,row[v]? = some x∧0≤x∧x<nv:=by
 have hm:=List.mem_of_getElem? hr
 have hl:=hp.rows _ hm
 refine ⟨hl,fun v hv=>⟨row[v]'(by omega),List.getElem?_eq_getElem (by omega),?_⟩⟩
 exact hp.inr _ hm _ (List.getElem_mem _)
theorem aCount (hp:PartOk nv p) (hs:Sa cRows F h A n K p) {k:Nat} (h1:1≤k) (h2:k≤n) (hK:∀ h',Nw h h'→Q (.int .i64 (most p k:Int)) h'):WC Tryz.prog 271 [.agg #[.slice A n K],.int .i64 k] h Q:=by
 have hn:n≤6:=by rw [← hs.len]; exact hp.few
 have hnv:=hp.nv_
 refine w_part_Count fun h1' e1=>?_
 obtain ⟨k1,g1,z1⟩:=news e1
 refine ⟨_,_,_,ldN1 (ldC_of g1 rfl),aNumbers (hs.nw k1) (by omega) h1 h2 fun A' n' K' row h2' hr s2 k2=>⟨_,_,_,rfl,?_⟩⟩
 obtain ⟨hl,hx⟩:=part_row hp hr
 have hn':n' = nv:=by rw [← s2.len]; exact hl
 subst hn'
 refine ⟨fun m acc x h3=>∃ i:Nat,x=i∧i≤n'∧m=n' - i∧acc=mostOf (row.take i)∧h3=h2',n',⟨0,rfl,Nat.zero_le _,rfl,rfl,rfl⟩,?_⟩
 rintro m acc x h3 ⟨i,rfl,hi,rfl,rfl,rfl⟩
 refine ⟨fun hlt=>?_,fun hge=>?_⟩
 ·obtain ⟨b,o,y,rfl,-,-,hy,e0⟩:=s2.int (k:=i) (by omega)
  obtain ⟨y',hy',y0,y1⟩:=hx i (by omega)
  rw [hy] at hy'
  injection hy' with hy'
  subst hy'
  have w1:IntKind.i64.wrap ((i:Int)+1)=((i+1:Nat):Int):=by rw [Int.natCast_succ]; exact wr_ok (by omega) (by omega)
  refine ⟨i,rfl,_,_,rfl,by omega,_,e0,fun hc=>⟨_,wr_ok (by omega) (by omega),_,w1,n' - (i+1),by omega,i+1,rfl,by omega,rfl,?_,rfl⟩,fun hc=>⟨_,w1,n' - (i+1),by omega,i+1,rfl,by omega,rfl,?_,rfl⟩⟩
  ·rw [mostOf_succ hy]; omega
  ·rw [mostOf_succ hy]; omega
 ·have hin:row.take i=row:=List.take_of_length_le (by omega)
  rw [hin,← most_row hr]
  exact hK _ (k1.trans k2)
theorem cell_vert (hp:PartOk nv p) {k c:Nat} {row:List Int} (hr:p[k - 1]? = some row) (hc:c<most p k):∃ v,v<nv∧row[v]? = some (c:Int):=by
 have hm:=List.mem_of_getElem? hr
 have h1:=most_row hr
 obtain ⟨v,hv⟩:=List.getElem?_of_mem (hp.full _ hm (c:Int) (by omega) (by omega))
 exact ⟨v,by rw [← (part_row hp hr).1]; exact (List.getElem?_eq_some_iff.1 hv).1,hv⟩
theorem aKids {N:NetD} (hp:PartOk N.nv p) (hs:Sa cRows F h A n K p) {k c:Nat} (h1:2≤k) (h2:k≤n) (hc:c<most p k)
  (hK:∀ A' n' K' ks h',Sa cI (fun b=>h.next≤b) h' A' n' K' (ints ks)→KidsIn N p k c ks→Nw h h'→Q (.slice A' n' K') h'):WC Tryz.prog 222 [.agg #[.slice A n K],.int .i64 k,.int .i64 c] h Q:=by
 have hn:n≤6:=by rw [← hs.len]; exact hp.few
 have hnv:=hp.nv_
 refine w_part_Kids fun h1' e1=>?_
 obtain ⟨k1,g1,z1⟩:=news e1
 have wk:IntKind.i64.wrap ((k:Int) - 1)=((k - 1:Nat):Int):=by rw [Int.natCast_sub (by omega)]; exact wr_ok (by omega) (by omega)
 refine ⟨fun h=>absurd h (by omega),fun _=>⟨_,_,_,ldN1 (ldC_of g1 rfl),_,wk,aNumbers (hs.nw k1) (by omega) (by omega) (by omega) fun A3 n3 K3 low h2' hlo s3 k2=>⟨_,_,_,rfl,_,_,_,ldN1 (ldC_of (k2.bk (by omega) g1) rfl),aNumbers (hs.nw (k1.trans k2)) (by omega) (by omega) h2 fun A5 n5 K5 row h3' hro s5 k3=>⟨_,_,_,rfl,?_⟩⟩⟩⟩
 obtain ⟨hl,hx⟩:=part_row hp hro
 obtain ⟨hl3,hx3⟩:=part_row hp hlo
 have hn5:n5=N.nv:=by rw [← s5.len]; exact hl
 have hn3:n3=N.nv:=by rw [← s3.len]; exact hl3
 subst hn5
 have k03:=(k1.trans k2).trans k3
 refine ⟨fun m A6 n6 K6 x h4=>∃ i:Nat,x=i∧i≤N.nv∧m=N.nv - i∧RowA h4 A6 n6 K6 (kidU low row c i)∧(∀ b,ownB A6 b→h3'.next≤b)∧Nw h3' h4,N.nv,⟨0,rfl,Nat.zero_le _,rfl,⟨rfl,.inl ⟨rfl,rfl,rfl⟩⟩,fun b hb=>hb.elim,Nw.refl _⟩,?_⟩
 rintro m A6 n6 K6 x h4 ⟨i,rfl,hi,rfl,o4,lo4,k4⟩
 have hn6:n6≤N.nv:=by have:=o4.1; have:=kidU_len low row c i; omega
 refine ⟨fun hlt=>?_,fun hge=>?_⟩
 ·have w1:IntKind.i64.wrap ((i:Int)+1)=((i+1:Nat):Int):=by rw [Int.natCast_succ]; exact wr_ok (by omega) (by omega)
  obtain ⟨b,o,y,hA5,-,-,hy,e0⟩:=(s5.nw k4).int (k:=i) (by omega)
  obtain ⟨b3,o3,y3,hA3,-,-,hy3,e3⟩:=(s3.nw (k3.trans k4)).int (k:=i) (by omega)
  refine ⟨i,rfl,b,o,hA5,by omega,_,e0,fun hc=>⟨fun _=>⟨b3,o3,hA3,by omega,_,e3,fun h5 e5=>?_⟩,fun h=>absurd h (by omega)⟩,fun hne=>⟨_,w1,N.nv - (i+1),by omega,i+1,rfl,by omega,rfl,?_,lo4,k4⟩⟩
  ·obtain ⟨k5,g5,z5⟩:=news e5
   obtain ⟨A7,K7,h6,y1,y2,y3',y4,y5⟩:=(o4.keep (fun b _ hb=>k5.get b hb) k5.next).app (L:=2) (ldC_of g5 rfl) (by omega)
   have hk6:Nw h3' h6:=⟨by have:=k4.next; omega,fun b hb=>(y4 b (by have:=k4.next; omega) (fun ho=>by have:=lo4 b ho; omega)).trans ((k5.get b (by have:=k4.next; omega)).trans (k4.get b hb))⟩
   refine ⟨A7,n6+1,K7,h6,y1,_,w1,N.nv - (i+1),by omega,i+1,rfl,by omega,rfl,?_,fun b hb=>(y5 b hb).elim (lo4 b) (fun h=>by have:=k4.next; omega),hk6⟩
   show RowA h6 A7 (n6+1) K7 (kidU low row c (i+1))
   rw [kidU,if_pos (by rw [hy,hc]),hy3]
   exact y2
  ·rw [kidU,if_neg (by rw [hy]; intro e; injection e with e; exact hne e)]
   exact o4
 ·obtain rfl:i=N.nv:=by omega
  obtain ⟨v,hv,hvr⟩:=cell_vert hp hro hc
  obtain ⟨u,hu,-⟩:=hx3 v hv
  have hmem:u∈kidU low row c N.nv:=(kidU_mem _).2 ⟨v,hv,hvr,hu⟩
  have hpos:0<n6:=by have:=o4.1; have:=List.length_pos_of_mem hmem; omega
  refine aSort o4 hpos (by omega) fun h7 o7 m7 z7=>⟨rfl,aCompact o7 (by omega) fun m8 h8 o8 m8' z8=>⟨_,_,_,rfl,?_⟩⟩
  obtain ⟨zs,hzs⟩:∃ zs,(kidU low row c N.nv).mergeSort (fun x y=>decide (x≤y))=zs:=⟨_,rfl⟩
  rw [hzs] at o8
  have hsorted:zs.Pairwise (·≤·):=by
   rw [← hzs]
   have:=List.pairwise_mergeSort (le:=fun (x y:Int)=>decide (x≤y)) (fun a b c h1 h2=>by simp at *; omega) (fun a b=>by simp; omega) (kidU low row c N.nv)
   exact this.imp fun h=>by simpa using h
  have hdm:∀ x,x∈dedN zs zs.length↔∃ v,v<N.nv∧row[v]? = some (c:Int)∧low[v]? = some x:=fun x=>by
   rw [dedN_mem,List.take_length,← hzs,List.mem_mergeSort,kidU_mem]
  have hnn:∀ x∈dedN zs zs.length,0≤x:=fun x hx=>by
   obtain ⟨v,v1,v2,v3⟩:=(hdm x).1 hx
   obtain ⟨y,hy,y0,-⟩:=hx3 v v1
   rw [hy] at v3
   injection v3 with v3
   omega
  have m48:Mt (ownB A6) h4 h8:=m7.then m8'
  refine hK A6 m8 K6 ((dedN zs zs.length).map Int.toNat) h8 ?_ ⟨?_,fun d=>?_⟩ (m48.is_nw (k03.trans k4) fun b hb=>by have:=lo4 b hb; have:=k03.next; omega)
  ·rw [nats_ints hnn]
   rcases o8.2 with ⟨rfl,h1,rfl⟩ | ⟨g,c',rest,rfl,q1,q2,q3,q4,q5⟩
   ·exact ⟨o8.1,.inl ⟨rfl,h1,rfl⟩,fun h=>absurd h (by omega)⟩
   ·refine Sa.of_bk q5 o8.1 (by have:=lo4 g rfl; have:=k03.next; omega) q1 fun j x hx=>?_
    have hj:=(List.getElem?_eq_some_iff.1 hx).1
    show ((((dedN zs zs.length).map (Value.int .i64) ++ rest).drop (j * 1)).take 1) = [.int .i64 x]
    rw [Nat.mul_one]
    exact take_one' (by rw [List.getElem?_append_left (by simpa using hj)]; simp [hx])
  ·rw [List.pairwise_map]
   have:=dedN_asc hsorted zs.length
   refine (List.Pairwise.and_mem.1 this).imp fun {a b} hab=>?_
   have h1:=hnn a hab.1
   have h2:=hab.2.2
   omega
  ·rw [List.mem_map]
   constructor
   ·rintro ⟨x,hx,rfl⟩
    obtain ⟨v,v1,v2,v3⟩:=(hdm x).1 hx
    exact ⟨v,v1,by rw [cel_row hro v2]; simp,by rw [cel_row hlo v3]⟩
   ·rintro ⟨v,v1,v2,v3⟩
    obtain ⟨x,hx',x0,-⟩:=hx v v1
    obtain ⟨y,hy,y0,-⟩:=hx3 v v1
    rw [cel_row hro hx'] at v2
    rw [cel_row hlo hy] at v3
    exact ⟨y,(hdm y).2 ⟨v,v1,by rw [hx']; congr 1; omega,hy⟩,v3⟩
theorem oKids {o:Nat} {N:NetD} (O:OvA h F o N p) {k c:Nat} (h1:2≤k) (h2:k≤p.length) (hc:c<most p k)
  (hK:∀ A' n' K' ks h',Sa cI (fun b=>h.next≤b) h' A' n' K' (ints ks)→KidsIn N p k c ks→Nw h h'→Q (.slice A' n' K') h'):WC Tryz.prog 160 [.pointer (some ⟨o,0,none⟩),.int .i64 k,.int .i64 c] h Q:=by
 obtain ⟨A,n,K,c0,s⟩:=O.part
 exact w_over_Over_Kids ⟨o,0,rfl,A,n,K,ldN1 c0,aKids O.hp s h1 (by rw [← s.len]; exact h2) hc fun A' n' K' ks h' x1 x2 x3=>⟨_,_,_,rfl,hK A' n' K' ks h' x1 x2 x3⟩⟩
end
end Eva
end
end Go.Proofs.YteffnclboadalaaGreatDoor
