/-
Lemmas for TopEntries. No condition.
-/
import Derived.Test.YtaomlhopkfmheaaGreatDoorPa
import Derived.Scope
import Derived.Deep.LoopGhost
import Derived.KernelRfl
import Derived.Test.YtaomlhopkfmheaaGreatDoorProg
namespace Go.Proofs.YtaomlhopkfmheaaGreatDoor
set_option linter.unusedVariables false
set_option linter.unusedSimpArgs false
set_option linter.unusedSectionVars false
set_option linter.unnecessarySimpa false
section
open Go Go.RowKit
namespace Eva
section
variable {P:Program}{σ:Ren}{w:World}
def AJ (h h':AH):Prop:=∀m o,h.get m=some o->h'.get m=some o
theorem mP {h h':AH}(hle:AJ h h'){n:Nat}{x:List Value×TypeId×Bool}(hx:aS h n=some x):aS h' n=some x:=by
 unfold aS at hx⊢
 split at hx
 ·rename_i c e f hg
  rw[hle _ _ hg];exact hx
 ·cases hx
theorem yx {h h':AH}(hle:AJ h h'){a:Addr}{n:Nat}{l:List Value}(hx:iM h a n=some l):iM h' a n=some l:=by
 unfold iM at hx⊢
 split at hx
 ·rename_i c e f hs hc
  rw[hs,mP hle hc];exact hx
 ·cases hx
theorem Ct {h h':AH}(hle:AJ h h'){o:Oper}{fr:Fr}{v:Value}(hv:evV P o fr h=some v):evV P o fr h' = some v:=by
 unfold evV at hv⊢
 split at hv
 all_goals first
  | exact hv
  | skip
 ·rename_i t x ho
  unfold gB at hv⊢
  split at hv
  ·rename_i a hx
   split at hv
   ·rename_i c e f hs hc
    rw[hs,mP hle hc];exact hv
   ·cases hv
  ·cases hv
 ·rename_i t x ix ok ho
  unfold bz at hv⊢
  split at hv
  ·rename_i kt e r hd hx
   split at hv
   ·rename_i es i hes hi
    have:jC h' r=some es:=by
     unfold jC at hes⊢
     split at hes
     ·exact hes
     ·rename_i n
      split at hes
      ·rename_i es0 cl hg;rw[hle _ _ hg];exact hes
      ·cases hes
    rw[this,hi];exact hv
   ·cases hv
  ·cases hv
 ·rename_i c ho
  unfold mr at hv⊢
  split at hv
  ·split at hv
   ·rename_i x hx
    unfold wB at hv⊢
    split at hv
    ·exact hv
    ·rename_i r
     obtain⟨h1,h2⟩:=ae hv
     rw[h1]
     simp only[cond_true]
     unfold qk at h2⊢
     split at h2
     ·rename_i es cl hg;rw[hle _ _ hg];exact h2
     ·cases h2
    ·exact hv
    ·cases hv
   ·cases hv
  ·exact hv
  ·exact hv
 ·rename_i s d x ho
  unfold ms at hv⊢
  split at hv
  ·rename_i a len K hx
   split at hv
   ·rename_i e hs hd
    split at hv
    ·rename_i he
     split at hv
     ·rename_i l hl
      have:fS h' a len=some l:=by
       unfold fS at hl⊢
       cases a with
       | none=>exact hl
       | some b=>
        simp only at hl⊢
        cases h0:Nat.beq len 0 with
        | true=>rw[h0]at hl;exact hl
        | false=>rw[h0]at hl;exact yx hle hl
      rw[this];exact hv
     ·cases hv
    ·cases hv
   ·cases hv
  ·exact hv
theorem wQ {o:Oper}(hl:looks P o.op=false) (fr:Fr) (h h':AH):evV P o fr h=evV P o fr h':=by
 unfold evV
 cases ho:o.op <;>rw[ho]at hl <;>first | rfl | (cases hl;done) | skip
 ·rename_i s d x
  show ms P o fr h s d (ev fr x)=ms P o fr h' s d (ev fr x)
  unfold ms
  cases ev fr x <;>simp only
  unfold looks at hl
  simp only at hl
  split
  ·rename_i h1 h2
   rw[h1,h2]at hl;cases hl
  ·rfl
 ·rename_i c
  show mr P o fr h c=mr P o fr h' c
  unfold mr
  unfold looks at hl
  simp only at hl
  split
  ·rename_i hc
   rw[hc]at hl
   simp only at hl
   split
   ·rename_i x _
    unfold wB
    split
    ·rfl
    ·rw[hl];rfl
    ·rfl
    ·rfl
   ·rfl
  ·rfl
  ·rfl
theorem pz {a b:Addr}(h:kr a b=true):a=b:=by
 unfold kr at h
 obtain⟨h1,h2⟩:=dy h
 obtain⟨h3,h4⟩:=dy h2
 have h1':=aq h1;have h3':=aq h3
 clear h h1 h2 h3
 obtain⟨x,y,z⟩:=a
 obtain⟨x',y',z'⟩:=b
 simp only at h1' h3' h4
 subst h1';subst h3'
 cases z <;>cases z' <;>first | rfl | cases h4 | (rw[aq h4])
theorem iu {f:Value->Value->Bool}(hf:∀u v,f u v=true->u=v):∀(l m:List Value),oE f l m=true->l=m
 | [],[],_=>rfl
 | [],_ :: _,h=>by cases h
 | _ :: _,[],h=>by cases h
 | x :: l,y :: m,h=>by
  have h':cond (f x y) (oE f l m) false=true:=h
  obtain⟨h1,h2⟩:=dy h'
  rw[hf x y h1,iu hf l m h2]
theorem fi:∀(n:Nat) (u v:Value),eqv n u v=true->u=v
 | 0,u,v,h=>by cases h
 | n+1,u,v,h=>by
  have h':lE (eqv n) u v=true:=h
  unfold lE at h'
  split at h'
  ·simp at h';rw[h']
  ·simp at h';rw[h'.1,h'.2]
  ·rename_i a b
   have:a.data=b.data:=Array.ext' (by simpa using h')
   cases a;cases b;simp at this;rw[this]
  ·rfl
  ·rw[pz h']
  ·obtain⟨h1,h2⟩:=ak h';rw[aq h1,aq h2]
  ·obtain⟨h1,h2⟩:=ak h';obtain⟨h3,h4⟩:=ak h1;rw[pz h3,aq h4,aq h2]
  ·rfl
  ·rw[aq h']
  ·rfl
  ·rfl
  ·obtain⟨h1,h2⟩:=ak h';rw[aq h1,fi n _ _ h2]
  ·rename_i a b;rw[Array.ext' (iu (fi n) _ _ h')]
  ·rename_i a b;rw[Array.ext' (iu (fi n) _ _ h')]
  ·obtain⟨h1,h2⟩:=ak h'
   obtain⟨h3,h4⟩:=ak h1
   rw[aq h3,Array.ext' (iu (fi n) _ _ h4),Array.ext' (iu (fi n) _ _ h2)]
  ·cases h'
theorem iv {x:Nat}:∀{l:List Nat},mem x l=true↔x∈l
 | []=>by constructor <;>(intro h;cases h)
 | y :: l=>by
  have e:mem x (y :: l)=cond (Nat.beq x y) true (mem x l):=rfl
  rw[e]
  cases h:Nat.beq x y with
  | true=>have:=aq h;subst this;simp
  | false=>
   have hne:x≠y:=λz=>by subst z;rw[Nat.beq_refl]at h;cases h
   simp only[cond_false,List.mem_cons,hne,false_or]
   exact iv
inductive oJ (P:Program) (ops:Array Oper):List Nat->List Nat->List (Nat×List Nat)->Prop
 | nil (T:List Nat):oJ P ops T [] []
 | quiet {T rest:List Nat}{j:Nat}{o:Oper}{l:List (Nat×List Nat)}:j∈rest->ops[j]? = some o->(∀x∈bC o,x∈T)->bG P o=false->oJ P ops (j :: T) (cU j rest) l->oJ P ops T rest ((j,[]) :: l)
 | loud {T rest:List Nat}{j:Nat}{o:Oper}{l:List (Nat×List Nat)}:j∈rest->ops[j]? = some o->(∀x∈bC o,x∈T)->bG P o=true->(∀x∈rest,x≠j->ready ops T x=false)->
   oJ P ops (j :: T) (cU j rest) l->oJ P ops T rest ((j,T.filter λx=>!(mem x (anc ops 12 j)) && pj P ops x) :: l)
theorem mQ {ops:Array Oper}{T:List Nat}{j:Nat}(h:ready ops T j=true):∃o,ops[j]? = some o/\∀x∈bC o,x∈T:=by
 unfold ready at h
 split at h
 ·rename_i o ho
  exact⟨o,ho,λx hx=>iv.1 (aQ h x hx)⟩
 ·cases h
theorem ma {α:Type}{p:α->Bool}:∀{l:List α},(∀x∈l,p x=true)->aO p l=true
 | [],_=>rfl
 | y :: l,h=>by
  have e:aO p (y :: l)=cond (p y) (aO p l) false:=rfl
  rw[e,h y (by simp)]
  exact ma λx hx=>h x (by simp[hx])
theorem yy {ops:Array Oper}{T:List Nat}{j:Nat}{o:Oper}(ho:ops[j]? = some o) (h:∀x∈bC o,x∈T):ready ops T j=true:=by
 unfold ready;rw[ho];exact ma λx hx=>iv.2 (h x hx)
theorem kz {ops:Array Oper}:∀(f:Nat) (T rest:List Nat){l:List (Nat×List Nat)},plan P ops f T rest=some l->oJ P ops T rest l
 | f,T,[],l,h=>by
  have:l = []:=by cases f <;>(simp[plan]at h;exact h)
  subst this;exact .nil T
 | 0,T,r :: rest,l,h=>by simp[plan]at h
 | f+1,T,r :: rest,l,h=>by
  unfold plan at h
  split at h
  ·rename_i j hj
   rw[Option.map_eq_some_iff]at h
   obtain⟨l',h1,rfl⟩:=h
   have hmem:=List.mem_of_find?_eq_some hj
   have hq:=List.find?_some hj
   unfold qq at hq
   obtain⟨h2,h3⟩:=dy hq
   obtain⟨o,ho,hw⟩:=mQ h2
   rw[ho]at h3
   exact .quiet hmem ho hw (by simpa using h3) (kz f _ _ h1)
  ·rename_i hnone
   split at h
   ·rename_i j hj
    rw[Option.map_eq_some_iff]at h
    obtain⟨l',h1,rfl⟩:=h
    have hjm:j∈(r :: rest).filter (ready ops T):=by rw[hj];simp
    obtain⟨h2,h3⟩:=List.mem_filter.1 hjm
    obtain⟨o,ho,hw⟩:=mQ h3
    have hloud:bG P o=true:=by
     have:=List.find?_eq_none.1 hnone j h2
     unfold qq at this
     rw[h3,ho]at this
     simpa using this
    refine .loud h2 ho hw hloud (λx hx hne=>?_) (kz f _ _ h1)
    cases hrx:ready ops T x with
    | false=>rfl
    | true=>
     have:x∈(r :: rest).filter (ready ops T):=List.mem_filter.2 ⟨hx,hrx⟩
     rw[hj]at this
     simp at this
     exact absurd this hne
   ·cases h
inductive lG (P:Program) (ops:Array Oper):List Nat->Prop
 | nil:lG P ops []
 | cons {T:List Nat}{j:Nat}{o:Oper}:lG P ops T->ops[j]? = some o->(∀x∈bC o,x∈T)->iY P ops T j=true->j ∉ T->lG P ops (j :: T)
structure Er (P:Program) (ops:Array Oper) (x o:Oper) (i:Nat):Prop where
 xo:bG P x=true\/(∀d,x.dst=some d->d ∉ o.looksAt ops)\/i∈bC o
 ox:bG P x=true\/(∀d,o.dst=some d->d ∉ x.looksAt ops/\x.dst≠some d)\/(i∈bC o/\bG P o=true)
theorem jJ {ops:Array Oper}{T:List Nat}{j i:Nat}{o x:Oper}(hj:ops[j]? = some o) (hi:ops[i]? = some x) (hm:i∈T) (h:iY P ops T j=true):Er P ops x o i:=by
 unfold iY at h
 rw[hj]at h
 simp only[Bool.and_eq_true,List.all_eq_true]at h
 have h1:=h.1 i hm
 unfold rR at h1
 rw[hi]at h1
 simp only[Bool.or_eq_true,Bool.and_eq_true]at h1
 rcases h1 with(h1 | h1) | ⟨h1,h2⟩
 ·exact⟨.inl h1,.inl h1⟩
 ·obtain⟨a,b,c⟩:=Oper.apart_spec h1
  exact⟨.inr (.inl a),.inr (.inl λd hd=>⟨c d hd,λe=>b d e hd⟩)⟩
 ·have hw:=iv.1 h1
  refine⟨.inr (.inr hw),?_⟩
  rcases h2 with h2 | h2
  ·exact .inr (.inr ⟨hw,h2⟩)
  ·unfold yk at h2
   refine .inr (.inl λd hd=>?_)
   rw[hd]at h2
   simpa using h2
theorem vv {ops:Array Oper}{T:List Nat}{j:Nat}{o:Oper}(hj:ops[j]? = some o) (h:iY P ops T j=true) (hq:bG P o=false):∀d,o.dst=some d->d ∉ o.looksAt ops:=by
 intro d hd
 unfold iY at h
 rw[hj]at h
 simp only[Bool.and_eq_true,hq,Bool.false_or,hd]at h
 simpa using h.2
theorem lG.get {ops:Array Oper}{T:List Nat}(h:lG P ops T){i:Nat}(hi:i∈T):∃o,ops[i]? = some o/\∀x∈bC o,x∈T:=by
 induction h with
 | nil=>cases hi
 | cons hT ho hw _ _ ih=>
  cases hi with
  | head=>exact⟨_,ho,λx hx=>List.mem_cons_of_mem _ (hw x hx)⟩
  | tail _ hm=>obtain⟨o,h1,h2⟩:=ih hm;exact⟨o,h1,λx hx=>List.mem_cons_of_mem _ (h2 x hx)⟩
theorem lG.open_ {ops:Array Oper}{T:List Nat}(h:lG P ops T) (L:Nat->Prop) (hex:∃i∈T,¬L i):∃i∈T,¬L i/\∃o,ops[i]? = some o/\∀x∈bC o,L x:=by
 induction h with
 | nil=>obtain⟨i,hi,_⟩:=hex;cases hi
 | @cons T j o hT ho hw _ _ ih=>
  by_cases h2:∃i∈T,¬L i
  ·obtain⟨i,hi,h3⟩:=ih h2
   exact⟨i,List.mem_cons_of_mem _ hi,h3⟩
  ·obtain⟨i,hi,hl⟩:=hex
   have hall:∀x∈T,L x:=λx hx=>Classical.byContradiction λhn=>h2 ⟨x,hx,hn⟩
   have:i=j:=by
    cases hi with
    | head=>rfl
    | tail _ hm=>exact absurd (hall i hm) hl
   subst this
   exact⟨i,by simp,hl,o,ho,λx hx=>hall x (hw x hx)⟩
theorem lG.quiet2 {ops:Array Oper}{T:List Nat}(h:lG P ops T){i j:Nat}{x y:Oper}(hi:i∈T) (hj:j∈T) (hx:ops[i]? = some x) (hy:ops[j]? = some y) (qx:bG P x=false) (qy:bG P y=false) (hne:i≠j) :
  ((∀d,x.dst=some d->d ∉ y.looksAt ops)\/i∈bC y)/\(∀d,x.dst=some d->y.dst≠some d):=by
 induction h with
 | nil=>cases hi
 | @cons T k o hT ho hw hl hk ih=>
  cases hi with
  | head=>
   rw[ho]at hx;cases hx
   cases hj with
   | head=>exact absurd rfl hne
   | tail _ hjm=>
    have hp:=jJ ho hy hjm hl
    rcases hp.ox with h1 | h1 | ⟨h1,h2⟩
    ·rw[qy]at h1;cases h1
    ·exact⟨.inl λd hd=>(h1 d hd).1,λd hd=>(h1 d hd).2⟩
    ·rw[qx]at h2;cases h2
  | tail _ him=>
   cases hj with
   | head=>
    rw[ho]at hy;cases hy
    have hp:=jJ ho hx him hl
    have h1:(∀d,x.dst=some d->d ∉ y.looksAt ops)\/i∈bC y:=by
     rcases hp.xo with h1 | h1
     ·rw[qx]at h1;cases h1
     ·exact h1
    have h2:∀d,x.dst=some d->y.dst≠some d:=by
     rcases hp.ox with h2 | h2 | ⟨_,h2⟩
     ·rw[qx]at h2;cases h2
     ·exact λd hd e=>(h2 d e).2 hd
     ·rw[qy]at h2;cases h2
    exact⟨h1,h2⟩
   | tail _ hjm=>exact ih him hjm
theorem lG.self {ops:Array Oper}{T:List Nat}(h:lG P ops T){i:Nat}{x:Oper}(hi:i∈T) (hx:ops[i]? = some x) (qx:bG P x=false):∀d,x.dst=some d->d ∉ x.looksAt ops:=by
 induction h with
 | nil=>cases hi
 | @cons T k o hT ho hw hl hk ih=>
  cases hi with
  | head=>rw[ho]at hx;cases hx;exact vv ho hl qx
  | tail _ him=>exact ih him
theorem sk {ops:Array Oper}{L:Nat->Prop}(hc:∀i o,L i->ops[i]? = some o->∀x∈bC o,L x):∀(f j:Nat){o:Oper},ops[j]? = some o->(∀x∈bC o,L x)->∀x∈anc ops f j,L x
 | 0,j,o,ho,hw,x,hx=>by cases hx
 | f+1,j,o,ho,hw,x,hx=>by
  simp only[anc,ho,List.mem_append,List.mem_flatMap]at hx
  rcases hx with hx | ⟨y,hy,hx⟩
  ·exact hw x hx
  ·cases hoy:ops[y]? with
   | none=>cases f <;>simp[anc,hoy]at hx
   | some oy=>exact sk hc f y hoy (hc y oy (hw y hy) hoy) x hx
end
end Eva
end
section
open Go Go.RowKit
namespace Eva
section
variable {P:Program}{σ:Ren}{w:World}
abbrev Lst (listed:Array Bool) (i:Nat):Prop:=listed.getD i false=true
def BX (P:Program) (ops:Array Oper) (σ:Ren) (h:AH) (fr:Fr) (lo:Nat) (nm:Nat->Option Nat) (i:Nat):Prop:=∃o,ops[i]? = some o/\
 ((cS ops fr o=false/\nm i=none/\∀d,o.dst=some d->d<fr.n->fr.get d=some undef)\/
  (cS ops fr o=true/\bB o=true/\∃frI:Fr,(∀t∈o.looksAt ops,frI.get t=fr.get t)/\
   ((∃v,aD P o = .val/\nm i=none/\evV P o frI h=some v/\∀d,o.dst=some d->d<fr.n->fr.get d=some v)\/
   (∃ob f n,aD P o = .lay/\nm i=some n/\evA P o frI=some (ob,f)/\σ n=none/\lo<=n/\n<h.next/\h.get n=some ob/\∀d,o.dst=some d->d<fr.n->fr.get d=some (f n)))))
def PX (ops:Array Oper) (T:List Nat) (listed:Array Bool) (a:Act) (t:Nat):Prop:=t<a.tmps.size/\∃i∈T,¬Lst listed i/\∃o,ops[i]? = some o/\o.dst=some t
structure Inv (P:Program) (ops:Array Oper) (σ0:Ren) (h0:AH) (w0:World) (T rest:List Nat) (l:List (Nat×List Nat)) (fr:Fr) (h:AH) (listed:Array Bool) (a:Act) (w:World) (σ:Ren) (nm:Nat->Option Nat):Prop where
 plan:oJ P ops T rest l
 good:lG P ops T
 part:∀i,i<ops.size->i∈T\/i∈rest
 disj:∀i∈rest,i ∉ T
 lone:lone P ops T (l.map (·.1))=true
 sub:∀i,Lst listed i->i∈T
 closed:∀i o,Lst listed i->ops[i]? = some o->∀x∈bC o,Lst listed x
 quiet:∀i∈T,¬Lst listed i->∀o,ops[i]? = some o->bG P o=false
 st:St P σ0 h0 w0 σ h w
 ar:ARx σ fr a (PX ops T listed a)
 deliv:∀i∈T,¬Lst listed i->BX P ops σ h fr h0.next nm i
 inj:∀i∈T,¬Lst listed i->∀j∈T,¬Lst listed j->∀n,nm i=some n->nm j=some n->i=j
 size:listed.size=ops.size
theorem vw {ops:Array Oper}{fr:Fr}{o:Oper}:agn ops fr o [] = []:=by unfold agn;cases (cS ops fr o && !(iP o.op)) <;>rfl
theorem i9 {ops:Array Oper}{o:Oper}{fr fr1:Fr}(h:∀t∈o.looksAt ops,fr1.get t=fr.get t):cS ops fr1 o=cS ops fr o:=by
 unfold cS
 cases hg:o.guard with
 | none=>rfl
 | some gw=>
  obtain⟨j,b⟩:=gw
  simp only
  cases hj:ops[j]? with
  | none=>rfl
  | some g=>
   simp only
   cases hd:g.dst with
   | none=>rfl
   | some d=>
    simp only
    rw[h d (List.mem_append_right _ (by rw[hg];simp[hj,hd]))]
theorem kA {ops:Array Oper}{T:List Nat}{j:Nat}{l:List Nat}(h:lone P ops T (j :: l)=true):iY P ops T j=true/\lone P ops (j :: T) l=true:=by
 simpa[lone]using h
theorem eS {j x:Nat}{l:List Nat}:x∈cU j l↔x∈l/\x≠j:=by
 unfold cU
 rw[List.mem_filter]
 constructor
 ·rintro⟨h1,h2⟩;exact⟨h1,λe=>by subst e;simp[Nat.beq_refl]at h2⟩
 ·rintro⟨h1,h2⟩
  refine⟨h1,?_⟩
  cases hb:Nat.beq x j with
  | false=>rfl
  | true=>exact absurd (aq hb) h2
theorem lx {ops:Array Oper}{j:Nat}{o:Oper}(h:ops[j]? = some o):j<ops.size:=(Array.getElem?_eq_some_iff.1 h).1
theorem St.addName {σ0:Ren}{h0 h:AH}{w0 w:World}(s:St P σ0 h0 w0 σ h w) (ob:AO):St P σ0 h0 w0 σ (h.new ob) w:=by
 have hnx:(h.new ob).next=h.next+1:=rfl
 have ne:∀n b,σ n=some b->n≠h.next:=λn b hb=>by have:=(s.hr.lt n b hb).1;omega
 refine⟨s.ext,⟨λn b x=>by have:=s.hr.lt n b x;rw[hnx];exact⟨by omega,this.2⟩,λn b o x y=>?_,λn m b o p x1 x2 y1 y2=>?_,λn hn=>?_⟩,s.os,s.tape,s.output,s.size,by rw[hnx];have:=s.next;omega,s.new,λn hn x=>?_,s.frame,λn b c e x y=>?_⟩
 ·rw[AH.get_new_ne h ob (Ne.symm (ne n b x))]at y;exact s.hr.obj n b o x y
 ·rw[AH.get_new_ne h ob (Ne.symm (ne n b x1))]at y1
  rw[AH.get_new_ne h ob (Ne.symm (ne m b x2))]at y2
  exact s.hr.inj n m b o p x1 x2 y1 y2
 ·rw[hnx]at hn
  rw[AH.get_new_ne h ob (by omega)];exact s.hr.none n (by omega)
 ·have:n≠h.next:=by have:=s.next;omega
  rw[AH.get_new_ne h ob (Ne.symm this)];exact s.keep n hn x
 ·obtain⟨p,q⟩:=s.ro n b c e x y
  have:n≠h.next:=by have:=s.hr.lt n b (s.ext n b x).1;omega
  exact⟨by rw[AH.get_new_ne h ob (Ne.symm this)];exact p,q⟩
theorem St.deliver {σ0:Ren}{h0 h:AH}{w0 w w':World}(s:St P σ0 h0 w0 σ h w){n:Nat}{ob:AO}{ob':Obj}{E:Nat}(h1:σ n=none) (h2:h0.next<=n) (h3:n<h.next) (h4:h.get n=some ob)
  (hl:wM w ob' w') (ho:∀σ':Ren,Ren.le σ σ'->σ'.e w.heap.size=E->OR P σ' w.heap.size ob ob'):St P σ0 h0 w0 (σ.put n w.heap.size E) h w':=by
 obtain⟨e1,e2,e3,e4⟩:=hl
 have hle:Ren.le σ (σ.put n w.heap.size E):=λm b hb=>by
  have:m≠n:=λe=>by rw[e,h1]at hb;cases hb
  have hlt:=(s.hr.lt m b hb).2
  exact⟨by rw[Ren.put_ne σ _ _ this];exact hb,Ren.put_e_ne σ _ _ (by omega)⟩
 have cases_:∀m b,(σ.put n w.heap.size E) m=some b->(m=n/\b=w.heap.size)\/(m≠n/\σ m=some b):=λm b hb=>by
  by_cases e:m=n
  ·subst e;rw[Ren.put_same]at hb;cases hb;exact .inl ⟨rfl,rfl⟩
  ·rw[Ren.put_ne σ _ _ e]at hb;exact .inr ⟨e,hb⟩
 have old:∀b,b<w.heap.size->w'.heap[b]? = w.heap[b]?:=λb hb=>by rw[e1,Array.getElem?_push];simp[Nat.ne_of_lt hb]
 have hsz:w'.heap.size=w.heap.size+1:=by rw[e1];simp
 refine⟨Ren.le_trans s.ext hle,⟨λm b x=>?_,λm b o x y=>?_,λm k b o p x1 x2 y1 y2=>?_,s.hr.none⟩,e2.trans s.os,e3.trans s.tape,e4.trans s.output,by have:=s.size;omega,s.next,λm b x y=>?_,s.keep,λb hb hf=>?_,λm b c e x y=>?_⟩
 ·rcases cases_ m b x with⟨rfl,rfl⟩ | ⟨_,x⟩
  ·exact⟨h3,by omega⟩
  ·have:=s.hr.lt m b x;exact⟨this.1,by omega⟩
 ·rcases cases_ m b x with⟨rfl,rfl⟩ | ⟨_,x⟩
  ·rw[h4]at y;cases y
   exact⟨ob',by rw[e1];simp,ho _ hle (Ren.put_e _ _ _ _)⟩
  ·obtain⟨q,q1,q2⟩:=s.hr.obj m b o x y
   exact⟨q,by rw[old b (s.hr.lt m b x).2];exact q1,q2.mono hle (hle m b x).2⟩
 ·rcases cases_ m b x1 with⟨rfl,rfl⟩ | ⟨_,z1⟩
  ·rcases cases_ k _ x2 with⟨rfl,_⟩ | ⟨_,z2⟩
   ·rfl
   ·exact absurd (s.hr.lt k _ z2).2 (Nat.lt_irrefl _)
  ·rcases cases_ k b x2 with⟨rfl,rfl⟩ | ⟨_,z2⟩
   ·exact absurd (s.hr.lt m _ z1).2 (Nat.lt_irrefl _)
   ·exact s.hr.inj m k b o p z1 z2 y1 y2
 ·rcases cases_ m b x with⟨rfl,rfl⟩ | ⟨_,x⟩
  ·exact⟨h2,.inl s.size⟩
  ·exact s.new m b x y
 ·have:=s.size
  rw[old b (by omega)];exact s.frame b hb hf
 ·obtain⟨p,q⟩:=s.ro m b c e x y
  exact⟨p,by rw[old b (s.hr.lt m b (s.ext m b x).1).2];exact q⟩
theorem ARx.give {fr:Fr}{a:Act}{X X':Nat->Prop}{d:Option Tmp}{v':Value}(h:ARx σ fr a X) (hd:∀x,d=some x->x<fr.n->VR σ (cd (fr.get x)) v')
  (hX:∀t,¬X' t->¬X t\/(d=some t/\t<a.tmps.size)):ARx σ fr (a.put d v') X':=by
 refine⟨by rw[dV];exact h.n,by rw[gU];exact h.d,λt ht=>?_⟩
 unfold TR
 rw[lw]
 by_cases hc:d=some t/\t<a.tmps.size
 ·rw[if_pos hc];exact hd t hc.1 (by rw[h.n];exact hc.2)
 ·rw[if_neg hc]
  rcases hX t ht with y | y
  ·exact h.t t y
  ·exact absurd y hc
theorem mb {listed:Array Bool}{i j:Nat}(hi:i<listed.size):Lst (listed.setIfInBounds i true) j↔j=i\/Lst listed j:=by
 unfold Lst
 by_cases e:j=i
 ·subst e;simp[hi]
 ·rw[getD_set_ne false (Ne.symm e)];simp[e]
theorem pA {o:Oper}{L:Nat->Prop}:(∀e∈o.after,Region.binds .any e=true->L e.on)↔∀x∈bC o,L x:=by
 unfold bC
 constructor
 ·intro h x hx
  obtain⟨e,he,rfl⟩:=List.mem_map.1 hx
  obtain⟨h1,h2⟩:=List.mem_filter.1 he
  exact h e (by simpa using h1) h2
 ·intro h e he hb
  exact h e.on (List.mem_map.2 ⟨e,List.mem_filter.2 ⟨by simpa using he,hb⟩,rfl⟩)
theorem kB {ops:Array Oper}{listed:Array Bool}(hs:listed.size=ops.size){i:Nat}:i∈Region.ready .any ops listed↔¬Lst listed i/\∃o,ops[i]? = some o/\∀x∈bC o,Lst listed x:=by
 rw[mem_ready]
 constructor
 ·rintro⟨h1,o,ho,h2⟩
  have hlt:i<listed.size:=by rw[hs];exact lx ho
  refine⟨?_,o,ho,pA.1 h2⟩
  unfold Lst
  simp[hlt]at h1⊢;exact h1
 ·rintro⟨h1,o,ho,h2⟩
  have hlt:i<listed.size:=by rw[hs];exact lx ho
  refine⟨?_,o,ho,pA.2 h2⟩
  unfold Lst at h1
  simp[hlt]at h1⊢;exact h1
section
variable {ops:Array Oper}{σ0:Ren}{h0:AH}{w0:World}{T rest:List Nat}{l:List (Nat×List Nat)}{fr:Fr}{h:AH}{listed:Array Bool}{a:Act}{nm:Nat->Option Nat}
theorem Inv.tr (I:Inv P ops σ0 h0 w0 T rest l fr h listed a w σ nm){i:Nat}{o:Oper}(hi:i∈T) (hl:¬Lst listed i) (ho:ops[i]? = some o) (hw:∀x∈bC o,Lst listed x):∀t∈o.looksAt ops,TR σ fr a t:=by
 intro t ht
 refine I.ar.t t λhX=>?_
 obtain⟨_,x,hx,hlx,ox,hox,hd⟩:=hX
 have qo:=I.quiet i hi hl o ho
 have qx:=I.quiet x hx hlx ox hox
 by_cases e:x=i
 ·subst e
  rw[ho]at hox;cases hox
  exact I.good.self hi ho qo t hd ht
 ·rcases(I.good.quiet2 hx hi hox ho qx qo e).1 with y | y
  ·exact y t hd ht
  ·exact hlx (hw x y)
theorem Inv.give (I:Inv P ops σ0 h0 w0 T rest l fr h listed a w σ nm){i:Nat}{o:Oper}(hi:i∈T) (hl:¬Lst listed i) (ho:ops[i]? = some o) (hw:∀x∈bC o,Lst listed x)
  {K:Act->World->Prop}{Q:Exit->Act->World->Prop}
  (hK:∀a' w' σ',Inv P ops σ0 h0 w0 T rest l fr h (listed.setIfInBounds i true) a' w' σ' nm->K a' w'):wpOp P ops Q i K a w:=by
 have hT:=I.tr hi hl ho hw
 have hilt:i<listed.size:=by rw[I.size];exact lx ho
 have hset:∀j,Lst (listed.setIfInBounds i true) j↔j=i\/Lst listed j:=λj=>mb hilt
 have hwant:=lZ (ops:=ops) (o:=o) hT
 have hX:∀v' t,¬PX ops T (listed.setIfInBounds i true) (a.put o.dst v') t->¬PX ops T listed a t\/(o.dst=some t/\t<a.tmps.size):=by
  intro v' t ht
  by_cases hc:o.dst=some t/\t<a.tmps.size
  ·exact .inr hc
  ·refine .inl λhx=>?_
   obtain⟨hlt,x,hxT,hxl,ox,hox,hd⟩:=hx
   refine ht ⟨by rw[dV];exact hlt,x,hxT,λhc2=>?_,ox,hox,hd⟩
   rcases(hset x).1 hc2 with e | e
   ·subst e;rw[ho]at hox;cases hox;exact hc ⟨hd,hlt⟩
   ·exact hxl e
 have build:∀(v':Value) (w':World) (σ':Ren),St P σ0 h0 w0 σ' h w'->ARx σ' fr a (PX ops T listed a)->(∀d,o.dst=some d->d<fr.n->VR σ' (cd (fr.get d)) v')->
   (∀j∈T,¬Lst listed j->j≠i->BX P ops σ' h fr h0.next nm j)->Inv P ops σ0 h0 w0 T rest l fr h (listed.setIfInBounds i true) (a.put o.dst v') w' σ' nm:=by
  intro v' w' σ' hst har hv hdel
  refine⟨I.plan,I.good,I.part,I.disj,I.lone,λj hj=>?_,λj oj hj hoj x hx=>?_,λj hj hlj=>?_,hst,har.give hv (hX v'),λj hj hlj=>?_,λj hj hlj k hk hlk n x y=>?_,by simp[I.size]⟩
  ·rcases(hset j).1 hj with e | e
   ·subst e;exact hi
   ·exact I.sub j e
  ·rcases(hset j).1 hj with e | e
   ·subst e;rw[ho]at hoj;cases hoj;exact(hset x).2 (.inr (hw x hx))
   ·exact(hset x).2 (.inr (I.closed j oj e hoj x hx))
  ·exact I.quiet j hj λe=>hlj ((hset j).2 (.inr e))
  ·exact hdel j hj (λe=>hlj ((hset j).2 (.inr e))) (λe=>hlj ((hset j).2 (.inl e)))
  ·exact I.inj j hj (λe=>hlj ((hset j).2 (.inr e))) k hk (λe=>hlk ((hset k).2 (.inr e))) n x y
 obtain⟨o',ho',hcase⟩:=I.deliv i hi hl
 rw[ho]at ho';cases ho'
 unfold wpOp
 simp only[ho]
 rcases hcase with⟨hwn,hnm,hd⟩ | ⟨hwn,hc,frI,hfrI,hcase⟩
 ·rw[hwn]at hwant
  simp only[hwant,Bool.false_eq_true,if_false]
  exact hK _ _ σ (build undef w σ I.st I.ar (λd h1 h2=>by rw[hd d h1 h2];exact bT σ) (λj hj hlj _=>I.deliv j hj hlj))
 ·rw[hwn]at hwant
  simp only[hwant,if_true]
  have hE:OkE σ frI a.eval o:=qF (ops:=ops) hc (λt ht=>by unfold TR;rw[hfrI t ht];exact hT t ht)
  refine .inl ?_
  unfold Oper.wp
  rcases hcase with⟨v,hk,hnm,hev,hd⟩ | ⟨ob,f,n,hk,hnm,hev,h1,h2,h3,h4,hd⟩
  ·obtain⟨v',r1,r2⟩:=pq I.st.hr hE hev
   rw[r1]
   exact hK _ _ σ (build v' w σ I.st I.ar (λd h1 h2=>by rw[hd d h1 h2];exact r2) (λj hj hlj _=>I.deliv j hj hlj))
  ·obtain⟨v',ob',w',E,r1,r2,r3,r4⟩:=pt (w:=w) hE hev
   rw[r1]
   have hst:=I.st.deliver h1 h2 h3 h4 r2 r3
   have hle:Ren.le σ (σ.put n w.heap.size E):=λm b hb=>by
    have:m≠n:=λe=>by rw[e,h1]at hb;cases hb
    have hlt:=(I.st.hr.lt m b hb).2
    exact⟨by rw[Ren.put_ne σ _ _ this];exact hb,Ren.put_e_ne σ _ _ (by omega)⟩
   refine hK _ _ _ (build v' w' _ hst (I.ar.mono hle) (λd x y=>by rw[hd d x y];exact r4 _ _ (Ren.put_same _ _ _ _) (Ren.put_e _ _ _ _)) (λj hj hlj hne=>?_))
   obtain⟨oj,hoj,hcj⟩:=I.deliv j hj hlj
   refine⟨oj,hoj,?_⟩
   rcases hcj with hcj | ⟨c1,c2,frJ,c3,c4⟩
   ·exact .inl hcj
   ·refine .inr ⟨c1,c2,frJ,c3,?_⟩
    rcases c4 with c4 | ⟨ob2,f2,n2,d1,d2,d3,d4,d5⟩
    ·exact .inl c4
    ·refine .inr ⟨ob2,f2,n2,d1,d2,d3,?_,d5⟩
     have hnn:n2≠n:=λe=>hne (I.inj j hj hlj i hi hl n (by rw[<-e];exact d2) hnm)
     rw[Ren.put_ne σ _ _ hnn];exact d4
theorem Inv.step (I:Inv P ops σ0 h0 w0 T rest l fr h listed a w σ nm){j:Nat}{again:List Nat}{l':List (Nat×List Nat)}{o:Oper}(hl:l=(j,again) :: l') (hj:j∈rest) (ho:ops[j]? = some o)
  (hwL:∀x∈bC o,Lst listed x) (hloud:bG P o=true) (hag:again=T.filter λx=>!(mem x (anc ops 12 j)) && pj P ops x) (hplan:oJ P ops (j :: T) (cU j rest) l')
  {fr1:Fr}{h1:AH}{v v':Value}{w':World}{σ':Ren}(hfr:fr1=cT fr o.dst v) (hst:St P σ h w σ' h1 w') (hv:VR σ' v v') (hsame:aO (ce P ops fr1 h1) (agn ops fr o again)=true) (hstay:(cS ops fr o && !(iP o.op))=false->h1=h) :
  Inv P ops σ0 h0 w0 (j :: T) (cU j rest) l' fr1 h1 (listed.setIfInBounds j true) (a.put o.dst v') w' σ' nm:=by
 have hjlt:j<listed.size:=by rw[I.size];exact lx ho
 have hset:∀i,Lst (listed.setIfInBounds j true) i↔i=j\/Lst listed i:=λi=>mb hjlt
 have hjT:j ∉ T:=I.disj j hj
 have hlone:=I.lone
 rw[hl]at hlone
 obtain⟨hl1,hl2⟩:=kA (l:=l'.map (·.1)) hlone
 have pend:∀i∈j :: T,¬Lst (listed.setIfInBounds j true) i->i∈T/\¬Lst listed i:=λi hi hli=>by
  have h1:i≠j:=λe=>hli ((hset i).2 (.inl e))
  have h2:¬Lst listed i:=λe=>hli ((hset i).2 (.inr e))
  cases hi with
  | head=>exact absurd rfl h1
  | tail _ hm=>exact⟨hm,h2⟩
 refine⟨hplan,.cons I.good ho (λx hx=>I.sub x (hwL x hx)) hl1 hjT,λi hi=>?_,λi hi=>?_,hl2,λi hi=>?_,λi oi hi hoi x hx=>?_,λi hi hli oi hoi=>?_,I.st.trans hst,?_,λi hi hli=>?_,λi hi hli k hk hlk n x y=>?_,by simp[I.size]⟩
 ·by_cases e:i=j
  ·subst e;exact .inl (by simp)
  ·rcases I.part i hi with y | y
   ·exact .inl (List.mem_cons_of_mem _ y)
   ·exact .inr (eS.2 ⟨y,e⟩)
 ·obtain⟨x,y⟩:=eS.1 hi
  simp only[List.mem_cons,not_or]
  exact⟨y,I.disj i x⟩
 ·rcases(hset i).1 hi with e | e
  ·subst e;simp
  ·exact List.mem_cons_of_mem _ (I.sub i e)
 ·rcases(hset i).1 hi with e | e
  ·subst e;rw[ho]at hoi;cases hoi;exact(hset x).2 (.inr (hwL x hx))
  ·exact(hset x).2 (.inr (I.closed i oi e hoi x hx))
 ·obtain⟨p1,p2⟩:=pend i hi hli
  exact I.quiet i p1 p2 oi hoi
 ·subst hfr
  have:=(I.ar.mono hst.ext).put (d:=o.dst) hv
  refine⟨this.n,this.d,λt ht=>this.t t λhx=>ht ?_⟩
  obtain⟨q1,i,q2,q3,oi,q4,q5⟩:=hx
  refine⟨by rw[dV];exact q1,i,List.mem_cons_of_mem _ q2,λe=>?_,oi,q4,q5⟩
  rcases(hset i).1 e with e | e
  ·subst e;exact hjT q2
  ·exact q3 e
 ·obtain⟨p1,p2⟩:=pend i hi hli
  obtain⟨x,hx,hcase⟩:=I.deliv i p1 p2
  have qx:=I.quiet i p1 p2 x hx
  have hp:=jJ ho hx p1 hl1
  have hapart:∀d,o.dst=some d->d ∉ x.looksAt ops/\x.dst≠some d:=by
   rcases hp.ox with y | y | ⟨y,_⟩
   ·rw[qx]at y;cases y
   ·exact y
   ·exact absurd (hwL i y) p2
  have hget:∀t∈x.looksAt ops,fr1.get t=fr.get t:=λt ht=>by
   subst hfr;exact ei λe=>(hapart t e).1 ht
  have hgetd:∀d,x.dst=some d->fr1.get d=fr.get d:=λd hd=>by
   subst hfr;exact ei λe=>(hapart d e).2 hd
  have hn:fr1.n=fr.n:=by subst hfr;exact mO
  have hwant:=i9 hget
  refine⟨x,hx,?_⟩
  rcases hcase with⟨c1,c2,c3⟩ | ⟨c1,c2,frI,c3,c4⟩
  ·exact .inl ⟨by rw[hwant];exact c1,c2,λd hd hlt=>by rw[hgetd d hd];exact c3 d hd (by rw[<-hn];exact hlt)⟩
  ·refine .inr ⟨by rw[hwant];exact c1,c2,?_⟩
   rcases c4 with⟨u,d1,d2,d3,d4⟩ | ⟨ob,f,n,d1,d2,d3,d4,d5,d6,d7,d8⟩
   ·cases hlk:(looks P x.op && (cS ops fr o && !(iP o.op))) with
    | false=>
     have hev:evV P x frI h1=evV P x frI h:=by
      rw[Bool.and_eq_false_iff]at hlk
      rcases hlk with hlk | hlk
      ·exact wQ hlk frI h1 h
      ·rw[hstay hlk]
     refine⟨frI,λt ht=>by rw[hget t ht];exact c3 t ht,.inl ⟨u,d1,d2,by rw[hev];exact d3,λd hd hlt=>by rw[hgetd d hd];exact d4 d hd (by rw[<-hn];exact hlt)⟩⟩
    | true=>
     have hanc:mem i (anc ops 12 j)=false:=by
      cases hm:mem i (anc ops 12 j) with
      | false=>rfl
      | true=>exact absurd (sk (L:=Lst listed) I.closed 12 j ho hwL i (iv.1 hm)) p2
     have hval:pj P ops i=true:=by unfold pj;rw[hx];simp[BV,d1]
     have hin:i∈again:=by rw[hag];exact List.mem_filter.2 ⟨p1,by rw[hanc,hval];rfl⟩
     obtain⟨hlk,hlk2⟩:=Bool.and_eq_true_iff.mp hlk
     unfold agn at hsame
     rw[hlk2]at hsame
     have hs:=aQ hsame i hin
     unfold ce at hs
     rw[hx]at hs
     simp only[hlk,cond_true,hwant,c1]at hs
     unfold yl at hs
     split at hs
     ·rename_i v2 hev
      refine⟨fr1,λ_ _=>rfl,.inl ⟨v2,d1,d2,hev,λd hd hlt=>?_⟩⟩
      rw[hd]at hs
      simp only at hs
      split at hs
      ·rename_i u2 hu2
       rw[hu2,fi 6 u2 v2 hs]
      ·cases hs
     ·cases hs
   ·refine⟨frI,λt ht=>by rw[hget t ht];exact c3 t ht,.inr ⟨ob,f,n,d1,d2,d3,?_,d5,Nat.lt_of_lt_of_le d6 hst.next,by rw[hst.keep n d6 d4];exact d7,λd hd hlt=>by rw[hgetd d hd];exact d8 d hd (by rw[<-hn];exact hlt)⟩⟩
    cases hq:σ' n with
    | none=>rfl
    | some b=>exact absurd (hst.new n b hq d4).1 (by omega)
 ·obtain⟨p1,p2⟩:=pend i hi hli
  obtain⟨p3,p4⟩:=pend k hk hlk
  exact I.inj i p1 p2 k p3 p4 n x y
end
end
end Eva
end
section
open Go Go.RowKit
namespace Eva
section
variable {P:Program}{σ:Ren}{w:World}
section
variable {ops:Array Oper}{σ0:Ren}{h0:AH}{w0:World}{listed:Array Bool}{a:Act}
theorem Inv.take {T rest:List Nat}{l l':List (Nat×List Nat)}{fr:Fr}{h:AH}{nm:Nat->Option Nat}(I:Inv P ops σ0 h0 w0 T rest l fr h listed a w σ nm){call:Rec}{j:Nat}{o:Oper}(hl:l=(j,[]) :: l')
  (hj:j∈rest) (ho:ops[j]? = some o) (hw:∀x∈bC o,x∈T) (hq:bG P o=false) (hplan:oJ P ops (j :: T) (cU j rest) l'){fr1:Fr}{h1:AH}(hop:op1 P call ops o fr h=some (fr1,h1)) :
  ∃nm',Inv P ops σ0 h0 w0 (j :: T) (cU j rest) l' fr1 h1 listed a w σ nm':=by
 have hjT:j ∉ T:=I.disj j hj
 have hjL:¬Lst listed j:=λe=>hjT (I.sub j e)
 have hlone:=I.lone
 rw[hl]at hlone
 obtain⟨hl1,hl2⟩:=kA (l:=l'.map (·.1)) hlone
 have hself:=vv ho hl1 hq
 have hcase:∃v nmj,fr1=cT fr o.dst v/\St P σ0 h0 w0 σ h1 w/\AJ h h1/\h.next<=h1.next/\(nmj=none\/nmj=some h.next)/\
   ((cS ops fr o=false/\nmj=none/\v=undef)\/
    (cS ops fr o=true/\bB o=true/\((aD P o = .val/\nmj=none/\evV P o fr h1=some v)\/
     (∃ob f n,aD P o = .lay/\nmj=some n/\evA P o fr=some (ob,f)/\σ n=none/\h0.next<=n/\n<h1.next/\h1.get n=some ob/\v=f n)))):=by
  unfold op1 at hop
  cases hwant:cS ops fr o with
  | false=>
   rw[hwant]at hop
   simp only[cond_false]at hop
   cases hop
   exact⟨undef,none,rfl,I.st,λ_ _ x=>x,Nat.le_refl _,.inl rfl,.inl ⟨rfl,rfl,rfl⟩⟩
  | true=>
   rw[hwant]at hop
   simp only[cond_true]at hop
   obtain⟨hc,h2⟩:=ae hop
   cases hk:aD P o with
   | loud=>unfold bG at hq;rw[hk]at hq;cases hq
   | val=>
    rw[hk]at h2
    have h3:yj fr h o.dst (evV P o fr h)=some (fr1,h1):=h2
    cases hv:evV P o fr h with
    | none=>rw[hv]at h3;cases h3
    | some v=>
     rw[hv]at h3;cases h3
     exact⟨v,none,rfl,I.st,λ_ _ x=>x,Nat.le_refl _,.inl rfl,.inr ⟨rfl,hc,.inl ⟨rfl,rfl,hv⟩⟩⟩
   | lay=>
    rw[hk]at h2
    have h3:AE fr h o.dst (evA P o fr)=some (fr1,h1):=h2
    cases hv:evA P o fr with
    | none=>rw[hv]at h3;cases h3
    | some bf=>
     obtain⟨ob,f⟩:=bf
     rw[hv]at h3;cases h3
     have hnx:(h.new ob).next=h.next+1:=rfl
     refine⟨f h.next,some h.next,rfl,I.st.addName ob,λm x hm=>?_,by rw[hnx];omega,.inr rfl,.inr ⟨rfl,hc,.inr ⟨ob,f,h.next,rfl,rfl,rfl,?_,I.st.next,by rw[hnx];omega,AH.get_new h ob,rfl⟩⟩⟩
     ·have:m≠h.next:=λe=>by subst e;rw[I.st.hr.none _ (Nat.le_refl _)]at hm;cases hm
      rw[AH.get_new_ne h ob (Ne.symm this)];exact hm
     ·cases hq2:σ h.next with
      | none=>rfl
      | some b=>exact absurd (I.st.hr.lt _ _ hq2).1 (Nat.lt_irrefl _)
 obtain⟨v,nmj,hfr,hst,hle,hnext,hnmj,hcase⟩:=hcase
 have hn:fr1.n=fr.n:=by subst hfr;exact mO
 have nmlt:∀i∈T,¬Lst listed i->∀n,nm i=some n->n<h.next:=λi hi hli n hnm=>by
  obtain⟨x,hx,hc⟩:=I.deliv i hi hli
  rcases hc with⟨_,c2,_⟩ | ⟨_,_,_,_,c4⟩
  ·rw[hnm]at c2;cases c2
  ·rcases c4 with⟨_,_,d2,_⟩ | ⟨_,_,n2,_,d2,_,_,_,d6,_⟩
   ·rw[hnm]at d2;cases d2
   ·rw[hnm]at d2;cases d2;exact d6
 refine⟨λi=>if i=j then nmj else nm i,hplan,.cons I.good ho hw hl1 hjT,λi hi=>?_,λi hi=>?_,hl2,λi hi=>List.mem_cons_of_mem _ (I.sub i hi),I.closed,λi hi hli oi hoi=>?_,hst,?_,λi hi hli=>?_,λi hi hli k hk hlk n x y=>?_,I.size⟩
 ·by_cases e:i=j
  ·subst e;exact .inl (by simp)
  ·rcases I.part i hi with y | y
   ·exact .inl (List.mem_cons_of_mem _ y)
   ·exact .inr (eS.2 ⟨y,e⟩)
 ·obtain⟨x,y⟩:=eS.1 hi
  simp only[List.mem_cons,not_or]
  exact⟨y,I.disj i x⟩
 ·cases hi with
  | head=>rw[ho]at hoi;cases hoi;exact hq
  | tail _ hm=>exact I.quiet i hm hli oi hoi
 ·refine⟨by rw[hn];exact I.ar.n,I.ar.d,λt ht=>?_⟩
  have hnd:¬(o.dst=some t/\t<a.tmps.size):=λhc=>ht ⟨hc.2,j,by simp,hjL,o,ho,hc.1⟩
  have hold:¬PX ops T listed a t:=λ⟨q1,i,q2,q3⟩=>ht ⟨q1,i,List.mem_cons_of_mem _ q2,q3⟩
  have hg:fr1.get t=fr.get t:=by
   subst hfr
   by_cases e:o.dst=some t
   ·rw[e]
    simp only[cT]
    rw[lq (t:=t) (by rw[I.ar.n];exact λhlt=>hnd ⟨e,hlt⟩)]
   ·exact ei e
  unfold TR
  rw[hg]
  exact I.ar.t t hold
 ·cases hi with
  | head=>
   have hlk:∀t∈o.looksAt ops,fr1.get t=fr.get t:=λt ht=>by
    subst hfr;exact ei λe=>hself t e ht
   have hwant:=i9 hlk
   have hgd:∀d,o.dst=some d->d<fr1.n->fr1.get d=some v:=λd hd hlt=>by
    subst hfr
    rw[mO]at hlt
    rw[hd]
    exact fX hlt
   refine⟨o,ho,?_⟩
   rcases hcase with⟨c1,c2,rfl⟩ | ⟨c1,c2,c3⟩
   ·exact .inl ⟨by rw[hwant];exact c1,by simp[c2],hgd⟩
   ·refine .inr ⟨by rw[hwant];exact c1,c2,fr,λt ht=>(hlk t ht).symm,?_⟩
    rcases c3 with⟨d1,d2,d3⟩ | ⟨ob,f,n,d1,d2,d3,d4,d5,d6,d7,d8⟩
    ·exact .inl ⟨v,d1,by simp[d2],d3,hgd⟩
    ·exact .inr ⟨ob,f,n,d1,by simp[d2],d3,d4,d5,d6,d7,λd x y=>by rw[hgd d x y,d8]⟩
  | tail _ hm=>
   have hne:i≠j:=λe=>hjT (e ▸ hm)
   obtain⟨x,hx,hc⟩:=I.deliv i hm hli
   have qx:=I.quiet i hm hli x hx
   have hp:=jJ ho hx hm hl1
   have hapart:∀d,o.dst=some d->d ∉ x.looksAt ops/\x.dst≠some d:=by
    rcases hp.ox with y | y | ⟨_,y⟩
    ·rw[qx]at y;cases y
    ·exact y
    ·rw[hq]at y;cases y
   have hget:∀t∈x.looksAt ops,fr1.get t=fr.get t:=λt ht=>by
    subst hfr;exact ei λe=>(hapart t e).1 ht
   have hgetd:∀d,x.dst=some d->fr1.get d=fr.get d:=λd hd=>by
    subst hfr;exact ei λe=>(hapart d e).2 hd
   have hwant:=i9 hget
   refine⟨x,hx,?_⟩
   rcases hc with⟨c1,c2,c3⟩ | ⟨c1,c2,frI,c3,c4⟩
   ·exact .inl ⟨by rw[hwant];exact c1,by simp[hne,c2],λd hd hlt=>by rw[hgetd d hd];exact c3 d hd (by rw[<-hn];exact hlt)⟩
   ·refine .inr ⟨by rw[hwant];exact c1,c2,frI,λt ht=>by rw[hget t ht];exact c3 t ht,?_⟩
    rcases c4 with⟨u,d1,d2,d3,d4⟩ | ⟨ob,f,n,d1,d2,d3,d4,d5,d6,d7,d8⟩
    ·exact .inl ⟨u,d1,by simp[hne,d2],Ct hle d3,λd hd hlt=>by rw[hgetd d hd];exact d4 d hd (by rw[<-hn];exact hlt)⟩
    ·exact .inr ⟨ob,f,n,d1,by simp[hne,d2],d3,d4,d5,by omega,hle n ob d7,λd hd hlt=>by rw[hgetd d hd];exact d8 d hd (by rw[<-hn];exact hlt)⟩
 ·have key:∀i∈j :: T,¬Lst listed i->∀n,(if i=j then nmj else nm i)=some n->(i=j/\n=h.next)\/(i≠j/\i∈T/\nm i=some n/\n<h.next):=λi hi hli n hx=>by
   by_cases e:i=j
   ·rw[if_pos e]at hx
    rcases hnmj with y | y
    ·rw[y]at hx;cases hx
    ·rw[y]at hx;cases hx;exact .inl ⟨e,rfl⟩
   ·rw[if_neg e]at hx
    have hm:i∈T:=by cases hi with | head=>exact absurd rfl e | tail _ hm=>exact hm
    exact .inr ⟨e,hm,hx,nmlt i hm hli n hx⟩
  rcases key i hi hli n x with⟨e1,e2⟩ | ⟨_,e2,e3,e4⟩
  ·rcases key k hk hlk n y with⟨g1,_⟩ | ⟨_,_,_,g4⟩
   ·rw[e1,g1]
   ·omega
  ·rcases key k hk hlk n y with⟨_,g2⟩ | ⟨_,g2,g3,_⟩
   ·omega
   ·exact I.inj i e2 hli k g2 hlk n e3 g3
theorem Inv.go_on {call:Rec}{E:FH}:∀(l:List (Nat×List Nat)){T rest:List Nat}{fr:Fr}{h:AH}{nm:Nat->Option Nat},Inv P ops σ0 h0 w0 T rest l fr h listed a w σ nm->drawn P call ops l fr h=some E->
  ∃T' rest' l' fr' h' nm',Inv P ops σ0 h0 w0 T' rest' l' fr' h' listed a w σ nm'/\drawn P call ops l' fr' h' = some E/\
   ((l' = []/\rest' = [])\/∃j again l'' o,l' = (j,again) :: l''/\j∈rest'/\ops[j]? = some o/\(∀x∈bC o,x∈T')/\bG P o=true/\(∀x∈rest',x≠j->ready ops T' x=false)/\
    again=(T'.filter λx=>!(mem x (anc ops 12 j)) && pj P ops x)/\oJ P ops (j :: T') (cU j rest') l'')
 | [],T,rest,fr,h,nm,I,hd=>by
  have hp:=I.plan
  have hr:rest = []:=by cases hp;rfl
  exact⟨T,rest,[],fr,h,nm,I,hd,.inl ⟨rfl,hr⟩⟩
 | (j,again) :: l,T,rest,fr,h,nm,I,hd=>by
  have hp:=I.plan
  cases hp with
  | quiet hj ho hw hq hp2=>
   rename_i o
   have hd':cG P call ops j [] (drawn P call ops l) fr h=some E:=hd
   unfold cG at hd'
   rw[ho]at hd'
   simp only at hd'
   cases hop:op1 P call ops o fr h with
   | none=>rw[hop]at hd';cases hd'
   | some fh=>
    obtain⟨fr1,h1⟩:=fh
    rw[hop,vw]at hd'
    have hd2:drawn P call ops l fr1 h1=some E:=hd'
    obtain⟨nm',I'⟩:=I.take rfl hj ho hw hq hp2 hop
    exact Inv.go_on l I' hd2
  | loud hj ho hw hq hall hp2=>
   rename_i o
   exact⟨T,rest,_,fr,h,nm,I,hd,.inr ⟨j,_,l,o,rfl,hj,ho,hw,hq,hall,rfl,hp2⟩⟩
theorem yz {i:Nat}{p q:Nat->Bool}(hq:∀x,q x=true->p x=true) (hi:p i=true) (hqi:q i=false):∀(l:List Nat),i∈l->(l.filter q).length<(l.filter p).length:=by
 have le:∀l:List Nat,(l.filter q).length<=(l.filter p).length:=by
  intro l
  induction l with
  | nil=>simp
  | cons x l ih=>
   simp only[List.filter_cons]
   cases hqx:q x with
   | true=>simp[hq x hqx];exact ih
   | false=>cases hpx:p x <;>simp <;>omega
 intro l
 induction l with
 | nil=>intro h;cases h
 | cons x l ih=>
  intro h
  simp only[List.filter_cons]
  cases h with
  | head=>simp[hi,hqi];have:=le l;omega
  | tail _ hm=>
   have:=ih hm
   cases hqx:q x with
   | true=>simp[hq x hqx];exact this
   | false=>cases hpx:p x <;>simp <;>omega
def left (ops:Array Oper) (listed:Array Bool):Nat:=((List.range ops.size).filter λi=>!listed.getD i false).length
theorem vA {ops:Array Oper}{listed:Array Bool}{i:Nat}(hs:listed.size=ops.size) (hi:i<ops.size) (hl:¬Lst listed i):left ops (listed.setIfInBounds i true)<left ops listed:=by
 unfold left
 refine yz (i:=i) (λx hx=>?_) ?_ ?_ _ (List.mem_range.2 hi)
 ·cases h:listed.getD x false with
  | false=>rfl
  | true=>
   have:Lst (listed.setIfInBounds i true) x:=(mb (by rw[hs];exact hi)).2 (.inr h)
   unfold Lst at this
   rw[this]at hx;cases hx
 ·cases h:listed.getD i false with
  | false=>rfl
  | true=>exact absurd h hl
 ·have:Lst (listed.setIfInBounds i true) i:=(mb (by rw[hs];exact hi)).2 (.inl rfl)
  unfold Lst at this
  rw[this];rfl
end
theorem wR {ops:Array Oper}{σ0:Ren}{h0:AH}{w0:World}{call:Rec}(hcall:dm P call){Q:Exit->Act->World->Prop}{frE:Fr}{hE:AH}
  (hQ:∀σ' a' w',St P σ0 h0 w0 σ' hE w'->AR σ' frE a'->Q .normal a' w'):∀(fuel:Nat){T rest:List Nat}{l:List (Nat×List Nat)}{fr:Fr}{h:AH}{listed:Array Bool}{a:Act}{w:World}{σ:Ren}{nm:Nat->Option Nat},
  Inv P ops σ0 h0 w0 T rest l fr h listed a w σ nm->drawn P call ops l fr h=some (frE,hE)->left ops listed<=fuel->wpAny P .any ops Q fuel listed a w:=by
 have atEnd:∀{T rest:List Nat}{l:List (Nat×List Nat)}{fr:Fr}{h:AH}{listed:Array Bool}{a:Act}{w:World}{σ:Ren}{nm:Nat->Option Nat},
   Inv P ops σ0 h0 w0 T rest l fr h listed a w σ nm->drawn P call ops l fr h=some (frE,hE)->Region.ready .any ops listed = []->Q .normal a w:=by
  intro T rest l fr h listed a w σ nm I hd hnone
  obtain⟨T',rest',l',fr',h',nm',I',hd',hcase⟩:=Inv.go_on l I hd
  have none_ready:∀i o,¬Lst listed i->ops[i]? = some o->(∀x∈bC o,Lst listed x)->False:=λi o h1 h2 h3=>by
   have:i∈Region.ready .any ops listed:=(kB I.size).2 ⟨h1,o,h2,h3⟩
   rw[hnone]at this;cases this
  have hall:∀i∈T',Lst listed i:=λi hi=>Classical.byContradiction λhn=>by
   obtain⟨k,hk,hlk,o,ho,hw⟩:=I'.good.open_ (Lst listed) ⟨i,hi,hn⟩
   exact none_ready k o hlk ho hw
  rcases hcase with⟨rfl,hr⟩ | ⟨j,again,l'',o,rfl,hj,ho,hw,_⟩
  ·have hd2:some (fr',h')=some (frE,hE):=hd'
   cases hd2
   exact hQ σ a w I'.st ⟨I'.ar.n,I'.ar.d,λt _=>I'.ar.t t λ⟨_,i,hi,hli,_⟩=>hli (hall i hi)⟩
  ·exact absurd (none_ready j o (λe=>I'.disj j hj (I'.sub j e)) ho (λx hx=>hall x (hw x hx))) id
 intro fuel
 induction fuel with
 | zero=>
  intro T rest l fr h listed a w σ nm I hd hf
  have hnone:Region.ready .any ops listed = []:=by
   cases hr:Region.ready .any ops listed with
   | nil=>rfl
   | cons i r=>
    exfalso
    have hi:i∈Region.ready .any ops listed:=by rw[hr];simp
    obtain⟨h1,o,ho,_⟩:=(kB I.size).1 hi
    have:=vA I.size (lx ho) h1
    omega
  exact⟨hnone,atEnd I hd hnone⟩
 | succ fuel ih=>
  intro T rest l fr h listed a w σ nm I hd hf
  refine⟨atEnd I hd,λi hi=>?_⟩
  obtain⟨T',rest',l',fr',h',nm',I',hd',hcase⟩:=Inv.go_on l I hd
  obtain⟨hli,o,ho,hw⟩:=(kB I.size).1 hi
  have hlt:=vA I.size (lx ho) hli
  by_cases hT:i∈T'
  ·exact I'.give hT hli ho hw (λa' w' σ' I2=>ih I2 hd' (by omega))
  ·rcases hcase with⟨rfl,hr⟩ | ⟨j,again,l'',oj,rfl,hj,hoj,hwj,hloud,hall,hag,hp2⟩
   ·rcases I'.part i (lx ho) with y | y
    ·exact absurd y hT
    ·rw[hr]at y;cases y
   ·have hir:i∈rest':=by
     rcases I'.part i (lx ho) with y | y
     ·exact absurd y hT
     ·exact y
    have hij:i=j:=Classical.byContradiction λhne=>by
     have h1:=hall i hir hne
     have h2:ready ops T' i=true:=yy ho (λx hx=>I'.sub x (hw x hx))
     rw[h1]at h2;cases h2
    subst hij
    rw[ho]at hoj;cases hoj
    have hd2:cG P call ops i again (drawn P call ops l'') fr' h' = some (frE,hE):=hd'
    unfold cG at hd2
    rw[ho]at hd2
    simp only at hd2
    cases hop:op1 P call ops o fr' h' with
    | none=>rw[hop]at hd2;cases hd2
    | some fh=>
     obtain⟨fr1,h1⟩:=fh
     rw[hop]at hd2
     have hd3:cond (aO (ce P ops fr1 h1) (agn ops fr' o again)) (drawn P call ops l'' fr1 h1) none=some (frE,hE):=hd2
     obtain⟨hs,hd4⟩:=ae hd3
     have hstay:(cS ops fr' o && !(iP o.op))=false->h1=h':=by
      intro hz
      unfold op1 at hop
      cases hwn:cS ops fr' o with
      | false=>rw[hwn]at hop;injection hop with hop;injection hop with _ e;exact e.symm
      | true=>
       rw[hwn]at hop hz
       cases hop2:o.op <;>rw[hop2]at hz <;>first | (cases hz;done) | skip
       rename_i x
       have hk:aD P o = .loud:=by unfold aD;rw[hop2]
       rw[hk]at hop
       simp only[cond_true]at hop
       cases hcn:bB o with
       | false=>rw[hcn]at hop;cases hop
       | true=>
        rw[hcn]at hop
        have hop3:kZ P call o fr' h' (evL P o fr' h')=some (fr1,h1):=hop
        have he:evL P o fr' h' = some (ev fr' x,h'):=by unfold evL;rw[hop2]
        rw[he]at hop3
        injection hop3 with e;injection e with _ e;exact e.symm
     have hlone:=I'.lone
     obtain⟨hl1,_⟩:=kA (l:=l''.map (·.1)) hlone
     have hTR:∀t∈o.looksAt ops,TR σ fr' a t:=λt ht=>I'.ar.t t λ⟨_,x,hx,hlx,ox,hox,hdx⟩=>by
      have hp:=jJ ho hox hx hl1
      have qx:=I'.quiet x hx hlx ox hox
      rcases hp.xo with y | y | y
      ·rw[qx]at y;cases y
      ·exact y t hdx ht
      ·exact hlx (hw x y)
     have hwant:=lZ (ops:=ops) (o:=o) hTR
     have fin:∀v v' w' σ',fr1=cT fr' o.dst v->St P σ h' w σ' h1 w'->VR σ' v v'->wpAny P .any ops Q fuel (listed.setIfInBounds i true) (a.put o.dst v') w':=λv v' w' σ' hfr hst hv=>
      ih (I'.step rfl hj ho hw hloud hag hp2 hfr hst hv hs hstay) hd4 (by omega)
     unfold wpOp
     simp only[ho]
     unfold op1 at hop
     cases hwn:cS ops fr' o with
     | false=>
      rw[hwn]at hop hwant
      simp only[cond_false]at hop
      cases hop
      simp only[hwant,Bool.false_eq_true,if_false]
      exact fin undef undef w σ rfl (St.refl I'.st.hr) (bT σ)
     | true=>
      rw[hwn]at hop hwant
      simp only[cond_true]at hop
      obtain⟨hc,h2⟩:=ae hop
      simp only[hwant,if_true]
      exact .inl (ky hcall I'.st.hr (qF hc hTR) h2 fin)
theorem iQ (hm:P.follows .mixedOrders=true){ops:Array Oper}{id:Nat}{call:Rec}(hcall:dm P call){l:List (Nat×List Nat)}{fr frE:Fr}{h hE:AH}{a:Act}(hr:HR P σ h w) (hA:AR σ fr a)
  (hp:fa P ops=some l) (hd:drawn P call ops l fr h=some (frE,hE)){Q:Exit->Act->World->Prop}(hQ:∀σ' a' w',St P σ h w σ' hE w'->AR σ' frE a'->Q .normal a' w'):(Code.region id ops true).wp P Q a w:=by
 unfold fa at hp
 split at hp
 ·rename_i l0 hl0
  obtain⟨h1,h2⟩:=ae hp
  cases h2
  refine wp_region_any hm ?_
  have hr':HR P σ h { w with drawn:=w.drawn+1 }:=hr.drawn rfl
  have hempty:∀i,¬Lst (Array.replicate ops.size false) i:=λi hi=>by
   have:(Array.replicate ops.size false).getD i false=false:=by rw[Array.getD_eq_getD_getElem?,Array.getElem?_replicate];split <;>rfl
   unfold Lst at hi
   rw[this]at hi;cases hi
  have nomem:∀{i:Nat}{p:Prop},i∈([]:List Nat)->p:=λh=>by cases h
  have hst:St P σ h w σ h { w with drawn:=w.drawn+1 }:=by
   have:=St.refl hr
   exact⟨this.ext,hr',rfl,rfl,rfl,this.size,this.next,this.new,this.keep,this.frame,this.ro⟩
  have I:Inv P ops σ h w [] (List.range ops.size) l fr h (Array.replicate ops.size false) a { w with drawn:=w.drawn+1 } σ (λ_=>none):=
   ⟨kz _ _ _ hl0,.nil,λi hi=>.inr (List.mem_range.2 hi),λi _ h=>nomem h,h1,λi hi=>absurd hi (hempty i),λi o hi=>absurd hi (hempty i),λi h=>nomem h,hst,
    ⟨hA.n,hA.d,λt _=>hA.t t (λx=>x)⟩,λi h=>nomem h,λi h=>nomem h,by simp⟩
  refine wR hcall hQ ops.size I hd ?_
  unfold left
  exact Nat.le_trans (List.length_filter_le _ _) (by simp)
 ·cases hp
def ER':Out->Exit->Prop
 | .normal,.normal=>True
 | .exit i,.exit j=>i=j
 | .ret,.ret=>True
 | _,_=>False
def sm (P:Program) (rc:Code->Fr->AH->R):Prop:=
 ∀c fr h e frE hE,rc c fr h=some (e,frE,hE)->∀(σ:Ren) (w:World) (a:Act) (Q:Exit->Act->World->Prop),HR P σ h w->AR σ fr a->
  (∀x σ' a' w',ER' e x->St P σ h w σ' hE w'->AR σ' frE a'->Q x a' w')->c.wp P Q a w
theorem pB:∀(l:List Value) (i:Nat) (t:Tr Value) (k:Nat),(frame i l t).get k=if i<=k/\k<i+l.length then l[k - i]? else t.get k
 | [],i,t,k=>by rw[if_neg (by simp)];rfl
 | v :: l,i,t,k=>by
  rw[frame,pB l (i+1) _ k]
  by_cases h1:i+1<=k/\k<i+1+l.length
  ·rw[if_pos h1,if_pos (by simp;omega)]
   rw[show k - i=(k - (i+1))+1 by omega]
   try simp
  ·rw[if_neg h1]
   by_cases e:k=i
   ·subst e
    rw[if_pos (by simp),Tr.get_set]
    try simp
   ·rw[Tr.get_set_ne _ _ (Ne.symm e),if_neg (by simp;omega)]
def wS (tmps:Array Value):ResultVar->Sem Value
 | .tmp t=>pure (tmps.getD t undef)
 | .cell b t=>do loadVar t (<-asAddr (tmps.getD b undef))
theorem mR (fn:Func) (tmps:Array Value):results fn tmps=(do let vs <-fn.results.mapM (wS tmps);pure (if h:vs.size=1 then vs[0] else .tuple vs)):=by
 unfold results
 congr 1
theorem fY {fr:Fr}{h:AH}{a:Act}(hr:HR P σ h w) (hA:AR σ fr a):∀(rs:List ResultVar){vs:List Value},iZ P fr h rs=some vs->
  ∃vs',(rs.mapM (wS a.tmps)).run P w = .ok vs' w/\VRs σ vs vs'
 | [],vs,h=>by
  have:vs = []:=by simp[iZ]at h;exact h
  subst this
  exact⟨[],by simp,VRs.nil σ⟩
 | .tmp t :: rs,vs,h=>by
  simp only[iZ,Option.map_eq_some_iff]at h
  obtain⟨us,h1,rfl⟩:=h
  obtain⟨us',h2,h3⟩:=fY hr hA rs h1
  refine⟨_,?_,VRs.cons (hA.t t (λx=>x)) h3⟩
  simp only[List.mapM_cons,wS,Sem.run_bind,Sem.run_pure,Result.andThen_ok]
  rw[show(List.mapM (wS a.tmps) rs).run P w = .ok us' w from h2]
  rfl
 | .cell b t :: rs,vs,h=>by
  simp only[iZ]at h
  unfold AF at h
  split at h
  ·rename_i v us hv h1
   cases h
   obtain⟨us',h2,h3⟩:=fY hr hA rs h1
   have hb:=hA.t b (λx=>x)
   unfold TR at hb
   obtain⟨v',r1,r2⟩:=lg (P:=P) hr hb hv
   refine⟨_,?_,VRs.cons r2 h3⟩
   have hp:∃ad,a.tmps.getD b undef = .pointer (some ad):=by
    unfold gB at hv
    split at hv
    ·rename_i ad he
     rw[he]at hb
     generalize a.tmps.getD b undef=z at hb
     cases hb;exact⟨_,rfl⟩
    ·cases hv
   obtain⟨ad,had⟩:=hp
   rw[had]at r1
   simp only[Instr.loadAt,Instr.sureAddr,Sem.run_bind,Sem.run_pure,Result.andThen_ok]at r1
   have e:(asAddr (a.tmps.getD b undef)).run P w = .ok ad w:=by rw[had];rfl
   have e2:(wS a.tmps (.cell b t)).run P w = .ok v' w:=by simp only[wS,Sem.run_bind,e,Result.andThen_ok,r1]
   simp only[List.mapM_cons,Sem.run_bind,e2,Sem.run_pure,Result.andThen_ok,h2]
  ·cases h
theorem yA {vs vs':List Value}(h:VRs σ vs vs'):VR σ (one vs) (if h:vs'.toArray.size=1 then vs'.toArray[0] else .tuple vs'.toArray):=by
 cases vs with
 | nil=>
  have:vs' = []:=List.eq_nil_of_length_eq_zero (by simpa using h.1.symm)
  subst this
  exact VR.tuple' (VRs.nil σ)
 | cons v vs=>
  cases vs' with
  | nil=>have:=h.1;simp at this
  | cons v' vs'=>
   cases vs with
   | nil=>
    have:vs' = []:=List.eq_nil_of_length_eq_zero (by have:=h.1;simpa using this.symm)
    subst this
    exact h.2 0 v v' rfl rfl
   | cons u us=>
    have hl:¬(v' :: vs').toArray.size=1:=by have:=h.1;simp at this⊢;intro e;subst e;simp at this
    rw[dif_neg hl]
    exact VR.tuple' h
theorem gV {rc:Code->Fr->AH->R}(hrc:sm P rc):dm P (calls P rc):=by
 intro g args h v h' hc σ w args' hr hargs
 unfold calls at hc
 split at hc
 ·rename_i fn hfn
  unfold vq at hc
  split at hc
  ·rename_i c hb
   obtain⟨h1,h2⟩:=ae hc
   have h1:=fe h1
   refine calls_of_wp hfn hb ?_
   have hlen:args'.size=args.length:=by have:=hargs.1;simp at this;exact this.symm
   have hA:AR σ ⟨fn.ntmps,frame 0 args .nil⟩ { tmps:=args' ++ Array.replicate (fn.ntmps - args'.size) undef,defers:=[] }:=by
    refine⟨by simp[hlen];omega,rfl,λt _=>?_⟩
    unfold TR Fr.get
    rw[pB,Array.getD_eq_getD_getElem?]
    simp only[Nat.zero_le,true_and,Nat.zero_add,Nat.sub_zero]
    by_cases ht:t<args.length
    ·rw[if_pos ht,Array.getElem?_append_left (by omega)]
     obtain⟨v',q1,q2⟩:=hargs.get (List.getElem?_eq_getElem ht)
     have q1':args'[t]? = some v':=by simpa using q1
     rw[List.getElem?_eq_getElem ht,q1']
     exact q2
    ·rw[if_neg ht,Array.getElem?_append_right (by omega)]
     have:((Array.replicate (fn.ntmps - args'.size) undef)[t - args'.size]?).getD undef=undef:=by
      rw[Array.getElem?_replicate];split <;>rfl
     rw[this]
     exact bT σ
   have fin:∀{fr:Fr}{h2:AH}{a':Act}{w':World}{σ':Ren}{x:Exit},mA h2 (iZ P fr h2 fn.results.toList)=some (v,h')->St P σ h w σ' h2 w'->AR σ' fr a'->(x = .normal\/x = .ret)->
     bodyPost P fn (λe w'=>∃v' σ',e = .returned v'/\St P σ h w σ' h' w'/\VR σ' v v') x a' w':=by
    intro fr h2 a' w' σ' x hres hst hA' hx
    cases hv:iZ P fr h2 fn.results.toList with
    | none=>rw[hv]at hres;cases hres
    | some vs=>
     rw[hv]at hres
     cases hres
     obtain⟨vs',q1,q2⟩:=fY hst.hr hA' fn.results.toList hv
     have hrun:(results fn a'.tmps).run P w' = .ok (if h:vs'.toArray.size=1 then vs'.toArray[0] else .tuple vs'.toArray) w':=by
      rw[mR,Array.mapM_eq_mapM_toList]
      simp only[Sem.run_bind,Sem.run_map,q1,Result.andThen_ok,Sem.run_pure]
     rcases hx with rfl | rfl <;>exact⟨hA'.d,_,hrun,_,σ',rfl,hst,yA q2⟩
   unfold rS at h2
   split at h2
   ·rename_i fr hh he
    refine hrc _ _ _ _ _ _ he σ w _ _ hr hA (λx σ' a' w' hx hst hA'=>?_)
    cases x <;>first | exact hx.elim | exact fin h2 hst hA' (.inl rfl)
   ·rename_i fr hh he
    refine hrc _ _ _ _ _ _ he σ w _ _ hr hA (λx σ' a' w' hx hst hA'=>?_)
    cases x <;>first | exact hx.elim | exact fin h2 hst hA' (.inr rfl)
   ·cases h2
  ·cases hc
 ·cases hc
theorem pC (n:Nat) (c:Code) (fr:Fr) (h:AH):code P (n+1) c fr h=ym P (code P n) c fr h:=rfl
theorem pD (c:Code) (fr:Fr) (h:AH):code P 0 c fr h=none:=rfl
theorem mS (hm:P.follows .mixedOrders=true):∀n,sm P (code P n):=by
 intro n
 induction n using Nat.strongRecOn with
 | _ n ih=>
  cases n with
  | zero=>intro c fr h e frE hE hc;rw[pD]at hc;cases hc
  | succ n=>
   have IH:sm P (code P n):=ih n (Nat.lt_succ_self n)
   intro c fr h e frE hE hc σ w a Q hr hA hQ
   rw[pC]at hc
   unfold ym at hc
   split at hc
   ·cases hc;exact wp_skip (hQ .normal σ a w trivial (St.refl hr) hA)
   ·cases hc;exact wp_label (hQ .normal σ a w trivial (St.refl hr) hA)
   ·rename_i id ops d
    have hcall:=gV IH
    unfold Dv at hc
    cases d with
    | true=>
     simp only at hc
     split at hc
     ·rename_i l hl
      cases hd:drawn P (calls P (code P n)) ops l fr h with
      | none=>rw[hd]at hc;cases hc
      | some fh=>
       obtain⟨fr1,h1⟩:=fh
       rw[hd]at hc;cases hc
       exact iQ hm hcall hr hA hl hd (λσ' a' w' hs hA'=>hQ .normal σ' a' w' trivial hs hA')
     ·cases hc
    | false=>
     simp only at hc
     cases hd:ee P (calls P (code P n)) ops ops.toList fr h with
     | none=>rw[hd]at hc;cases hc
     | some fh=>
      obtain⟨fr1,h1⟩:=fh
      rw[hd]at hc;cases hc
      refine wp_region (ej hcall (List.range ops.size) ops.toList ?_ hr hA hd (λσ' a' w' hs hA'=>hQ .normal σ' a' w' trivial hs hA'))
      apply List.ext_getElem?
      intro i
      simp only[List.getElem?_map]
      by_cases hi:i<ops.size
      ·rw[List.getElem?_range hi]
       simp[hi]
      ·rw[List.getElem?_eq_none (by simpa using hi),List.getElem?_eq_none (by simpa using hi)];rfl
   ·rename_i x y
    refine wp_seq ?_
    unfold gF at hc
    split at hc
    ·rename_i fr1 h1 hx
     refine IH x fr h .normal fr1 h1 hx σ w a _ hr hA (λz σ1 a1 w1 hz hs hA1=>?_)
     cases z <;>first | exact hz.elim | skip
     exact IH y fr1 h1 e frE hE hc σ1 w1 a1 Q hs.hr hA1 (λz2 σ2 a2 w2 hz2 hs2 hA2=>hQ z2 σ2 a2 w2 hz2 (hs.trans hs2) hA2)
    ·rename_i hne
     refine IH x fr h e frE hE hc σ w a _ hr hA (λz σ1 a1 w1 hz hs hA1=>?_)
     cases z with
     | normal=>cases e <;>first | exact hz.elim | exact absurd hc (hne _ _)
     | exit id=>exact hQ _ σ1 a1 w1 hz hs hA1
     | ret=>exact hQ _ σ1 a1 w1 hz hs hA1
     | goto l=>cases e <;>exact hz.elim
     | panic l=>cases e <;>exact hz.elim
     | outgrown=>cases e <;>exact hz.elim
   ·rename_i x y z
    obtain⟨hcon,hc⟩:=ae hc
    have hx:VR σ (ev fr x) (a.eval x):=by
     cases x with
     | tmp t=>exact hA.t t (λx=>x)
     | const v=>exact cV hcon
     | global g=>cases hcon
     | func f=>exact .func _ rfl (λi v v' y=>by simp at y) rfl (λi v v' y=>by simp at y)
    unfold mB at hc
    split at hc
    ·rename_i he
     rw[he]at hx
     have:a.eval x = .bool true:=by generalize a.eval x=q at hx;cases hx;rfl
     exact wp_cond_true this (IH y fr h e frE hE hc σ w a Q hr hA hQ)
    ·rename_i he
     rw[he]at hx
     have:a.eval x = .bool false:=by generalize a.eval x=q at hx;cases hx;rfl
     exact wp_cond_false this (IH z fr h e frE hE hc σ w a Q hr hA hQ)
    ·cases hc
   ·rename_i id b
    refine wp_block ?_
    unfold gN at hc
    split at hc
    ·rename_i i fr1 h1 hb
     cases hi:Nat.beq i id with
     | true=>
      rw[hi]at hc;cases hc
      have:=aq hi
      refine IH b fr h _ _ _ hb σ w a _ hr hA (λz σ1 a1 w1 hz hs hA1=>?_)
      cases z with
      | exit k=>
       have hk:i=k:=hz
       subst hk
       simp only[Exit.inBlock,this,if_true]
       exact hQ .normal σ1 a1 w1 trivial hs hA1
      | _=>exact hz.elim
     | false=>
      rw[hi]at hc;cases hc
      have hne:i≠id:=λy=>by subst y;rw[Nat.beq_refl]at hi;cases hi
      refine IH b fr h _ _ _ hb σ w a _ hr hA (λz σ1 a1 w1 hz hs hA1=>?_)
      cases z with
      | exit k=>
       have hk:i=k:=hz
       subst hk
       simp only[Exit.inBlock,hne,if_false]
       exact hQ (.exit i) σ1 a1 w1 rfl hs hA1
      | _=>exact hz.elim
    ·rename_i hne
     refine IH b fr h e frE hE hc σ w a _ hr hA (λz σ1 a1 w1 hz hs hA1=>?_)
     cases z with
     | normal=>exact hQ _ σ1 a1 w1 hz hs hA1
     | exit k=>cases e <;>first | exact hz.elim | exact absurd hc (hne _ _ _)
     | ret=>exact hQ _ σ1 a1 w1 hz hs hA1
     | goto l=>cases e <;>exact hz.elim
     | panic l=>cases e <;>exact hz.elim
     | outgrown=>cases e <;>exact hz.elim
   ·
    rename_i b
    refine wp_loop_ghost (λm a1 w1=>m<=n+1/\∃fr1 h1 σ1,code P m (.loop b) fr1 h1=some (e,frE,hE)/\St P σ h w σ1 h1 w1/\AR σ1 fr1 a1) (n+1) ⟨Nat.le_refl _,fr,h,σ,hc,St.refl hr,hA⟩ ?_
    rintro m a1 w1 ⟨hm1,fr1,h1,σ1,hcode,hs,hA1⟩
    cases m with
    | zero=>rw[pD]at hcode;cases hcode
    | succ m=>
     have IHm:sm P (code P m):=ih m (by omega)
     rw[pC]at hcode
     have hcode2:gF (code P m (.loop b)) (code P m b fr1 h1)=some (e,frE,hE):=hcode
     unfold gF at hcode2
     split at hcode2
     ·rename_i fr2 h2 hb
      refine IHm b fr1 h1 .normal fr2 h2 hb σ1 w1 a1 _ hs.hr hA1 (λz σ2 a2 w2 hz hs2 hA2=>?_)
      cases z <;>first | exact hz.elim | skip
      exact⟨m,Nat.lt_succ_self m,by omega,fr2,h2,σ2,hcode2,hs.trans hs2,hA2⟩
     ·rename_i hne
      refine IHm b fr1 h1 e frE hE hcode2 σ1 w1 a1 _ hs.hr hA1 (λz σ2 a2 w2 hz hs2 hA2=>?_)
      cases z with
      | normal=>cases e <;>first | exact hz.elim | exact absurd hcode2 (hne _ _)
      | exit id=>exact hQ _ σ2 a2 w2 hz (hs.trans hs2) hA2
      | ret=>exact hQ _ σ2 a2 w2 hz (hs.trans hs2) hA2
      | goto l=>cases e <;>exact hz.elim
      | panic l=>cases e <;>exact hz.elim
      | outgrown=>cases e <;>exact hz.elim
   ·cases hc;exact wp_exit (hQ (.exit _) σ a w rfl (St.refl hr) hA)
   ·rename_i b
    refine wp_scope_straight ?_
    refine IH b fr h e frE hE hc σ w a _ hr hA (λz σ1 a1 w1 hz hs hA1=>?_)
    cases z with
    | goto l=>cases e <;>exact hz.elim
    | _=>exact hQ _ σ1 a1 w1 hz hs hA1
   ·cases hc;exact wp_ret (hQ .ret σ a w trivial (St.refl hr) hA)
   ·cases hc
end
end Eva
end
section
open Go Go.RowKit
namespace Eva
noncomputable section
def gW:List Value->Option (List Int)
 | []=>some []
 | .int .i64 x :: l=>(gW l).map (x :: ·)
 | _=>none
def uj (h:AH) (b o:Nat) (c:List Value) (e:TypeId) (n K:Nat):Option (List Int)->Option VH
 | some zs=>cond (Nat.ble (o+n) c.length && Nat.ble n (K / 2) && Nat.ble n 1000000) (some (.tuple #[],h.put b (.cells (c.take o ++ (zs.mergeSort λx y=>decide (x<=y)).map (Value.int .i64) ++ c.drop (o+n)) e false))) none
 | none=>none
def vB (h:AH):List Value->Option VH
 | [.slice (some ⟨b,o,none⟩) n K]=>match h.get b with
  | some (.cells c e false)=>uj h b o c e n K (gW ((c.drop o).take n))
  | _=>none
 | _=>none
def yB (h:AH):List Value->Option VH
 | []=>some (.bool true,h)
 | _=>none
def orc (g:FuncId) (args:List Value) (h:AH):Option VH:=
 cond (Nat.beq g 323) (vB h args) (cond (Nat.beq g 4) (yB h args) none)
def aK (P:Program) (rc:Code->Fr->AH->R) (g:FuncId) (args:List Value) (h:AH):Option VH:=
 match orc g args h with
 | some r=>some r
 | none=>calls P rc g args h
def Cu (P:Program) (rc:Code->Fr->AH->R) (ops:Array Oper) (fr:Fr) (h:AH):Bool->R
 | true=>match fa P ops with
  | some l=>nor (drawn P (aK P rc) ops l fr h)
  | none=>none
 | false=>nor (ee P (aK P rc) ops ops.toList fr h)
def stepO (P:Program) (rc:Code->Fr->AH->R) (c:Code) (fr:Fr) (h:AH):R:=
 match c with
 | .skip=>some (.normal,fr,h)
 | .label _=>some (.normal,fr,h)
 | .region _ ops d=>Cu P rc ops fr h d
 | .seq a b=>gF (rc b) (rc a fr h)
 | .cond x a b=>cond (dT x) (mB (λ_=>rc a fr h) (λ_=>rc b fr h) (ev fr x)) none
 | .block id b=>gN id (rc b fr h)
 | .loop b=>gF (rc (.loop b)) (rc b fr h)
 | .exit id=>some (.exit id,fr,h)
 | .scope b=>rc b fr h
 | .ret=>some (.ret,fr,h)
 | _=>none
def aH (P:Program) (n:Nat):Code->Fr->AH->R:=
 Nat.rec (motive:=λ_=>Code->Fr->AH->R) (λ_ _ _=>none) (λ_ ih c fr h=>stepO P ih c fr h) n
section
variable {P:Program}
theorem jK (hO:dm P orc){rc:Code->Fr->AH->R}(hrc:sm P rc):dm P (aK P rc):=by
 intro g args h v h' hc σ w args' hr ha
 unfold aK at hc
 cases ho:orc g args h with
 | some r=>rw[ho]at hc;injection hc with hc;subst hc;exact hO g args h v h' ho σ w args' hr ha
 | none=>rw[ho]at hc;exact gV hrc g args h v h' hc σ w args' hr ha
theorem aU (n:Nat) (c:Code) (fr:Fr) (h:AH):aH P (n+1) c fr h=stepO P (aH P n) c fr h:=rfl
theorem ja (c:Code) (fr:Fr) (h:AH):aH P 0 c fr h=none:=rfl
theorem sn (hm:P.follows .mixedOrders=true) (hO:dm P orc):∀n,sm P (aH P n):=by
 intro n
 induction n using Nat.strongRecOn with
 | _ n ih=>
  cases n with
  | zero=>intro c fr h e frE hE hc;rw[ja]at hc;cases hc
  | succ n=>
   have IH:sm P (aH P n):=ih n (Nat.lt_succ_self n)
   intro c fr h e frE hE hc σ w a Q hr hA hQ
   rw[aU]at hc
   unfold stepO at hc
   split at hc
   ·cases hc;exact wp_skip (hQ .normal σ a w trivial (St.refl hr) hA)
   ·cases hc;exact wp_label (hQ .normal σ a w trivial (St.refl hr) hA)
   ·rename_i id ops d
    have hcall:=jK hO IH
    unfold Cu at hc
    cases d with
    | true=>
     simp only at hc
     split at hc
     ·rename_i l hl
      cases hd:drawn P (aK P (aH P n)) ops l fr h with
      | none=>rw[hd]at hc;cases hc
      | some fh=>
       obtain⟨fr1,h1⟩:=fh
       rw[hd]at hc;cases hc
       exact iQ hm hcall hr hA hl hd (λσ' a' w' hs hA'=>hQ .normal σ' a' w' trivial hs hA')
     ·cases hc
    | false=>
     simp only at hc
     cases hd:ee P (aK P (aH P n)) ops ops.toList fr h with
     | none=>rw[hd]at hc;cases hc
     | some fh=>
      obtain⟨fr1,h1⟩:=fh
      rw[hd]at hc;cases hc
      refine wp_region (ej hcall (List.range ops.size) ops.toList ?_ hr hA hd (λσ' a' w' hs hA'=>hQ .normal σ' a' w' trivial hs hA'))
      apply List.ext_getElem?
      intro i
      simp only[List.getElem?_map]
      by_cases hi:i<ops.size
      ·rw[List.getElem?_range hi]
       simp[hi]
      ·rw[List.getElem?_eq_none (by simpa using hi),List.getElem?_eq_none (by simpa using hi)];rfl
   ·rename_i x y
    refine wp_seq ?_
    unfold gF at hc
    split at hc
    ·rename_i fr1 h1 hx
     refine IH x fr h .normal fr1 h1 hx σ w a _ hr hA (λz σ1 a1 w1 hz hs hA1=>?_)
     cases z <;>first | exact hz.elim | skip
     exact IH y fr1 h1 e frE hE hc σ1 w1 a1 Q hs.hr hA1 (λz2 σ2 a2 w2 hz2 hs2 hA2=>hQ z2 σ2 a2 w2 hz2 (hs.trans hs2) hA2)
    ·rename_i hne
     refine IH x fr h e frE hE hc σ w a _ hr hA (λz σ1 a1 w1 hz hs hA1=>?_)
     cases z with
     | normal=>cases e <;>first | exact hz.elim | exact absurd hc (hne _ _)
     | exit id=>exact hQ _ σ1 a1 w1 hz hs hA1
     | ret=>exact hQ _ σ1 a1 w1 hz hs hA1
     | goto l=>cases e <;>exact hz.elim
     | panic l=>cases e <;>exact hz.elim
     | outgrown=>cases e <;>exact hz.elim
   ·rename_i x y z
    obtain⟨hcon,hc⟩:=ae hc
    have hx:VR σ (ev fr x) (a.eval x):=by
     cases x with
     | tmp t=>exact hA.t t (λx=>x)
     | const v=>exact cV hcon
     | global g=>cases hcon
     | func f=>exact .func _ rfl (λi v v' y=>by simp at y) rfl (λi v v' y=>by simp at y)
    unfold mB at hc
    split at hc
    ·rename_i he
     rw[he]at hx
     have:a.eval x = .bool true:=by generalize a.eval x=q at hx;cases hx;rfl
     exact wp_cond_true this (IH y fr h e frE hE hc σ w a Q hr hA hQ)
    ·rename_i he
     rw[he]at hx
     have:a.eval x = .bool false:=by generalize a.eval x=q at hx;cases hx;rfl
     exact wp_cond_false this (IH z fr h e frE hE hc σ w a Q hr hA hQ)
    ·cases hc
   ·rename_i id b
    refine wp_block ?_
    unfold gN at hc
    split at hc
    ·rename_i i fr1 h1 hb
     cases hi:Nat.beq i id with
     | true=>
      rw[hi]at hc;cases hc
      have:=aq hi
      refine IH b fr h _ _ _ hb σ w a _ hr hA (λz σ1 a1 w1 hz hs hA1=>?_)
      cases z with
      | exit k=>
       have hk:i=k:=hz
       subst hk
       simp only[Exit.inBlock,this,if_true]
       exact hQ .normal σ1 a1 w1 trivial hs hA1
      | _=>exact hz.elim
     | false=>
      rw[hi]at hc;cases hc
      have hne:i≠id:=λy=>by subst y;rw[Nat.beq_refl]at hi;cases hi
      refine IH b fr h _ _ _ hb σ w a _ hr hA (λz σ1 a1 w1 hz hs hA1=>?_)
      cases z with
      | exit k=>
       have hk:i=k:=hz
       subst hk
       simp only[Exit.inBlock,hne,if_false]
       exact hQ (.exit i) σ1 a1 w1 rfl hs hA1
      | _=>exact hz.elim
    ·rename_i hne
     refine IH b fr h e frE hE hc σ w a _ hr hA (λz σ1 a1 w1 hz hs hA1=>?_)
     cases z with
     | normal=>exact hQ _ σ1 a1 w1 hz hs hA1
     | exit k=>cases e <;>first | exact hz.elim | exact absurd hc (hne _ _ _)
     | ret=>exact hQ _ σ1 a1 w1 hz hs hA1
     | goto l=>cases e <;>exact hz.elim
     | panic l=>cases e <;>exact hz.elim
     | outgrown=>cases e <;>exact hz.elim
   ·
    rename_i b
    refine wp_loop_ghost (λm a1 w1=>m<=n+1/\∃fr1 h1 σ1,aH P m (.loop b) fr1 h1=some (e,frE,hE)/\St P σ h w σ1 h1 w1/\AR σ1 fr1 a1) (n+1) ⟨Nat.le_refl _,fr,h,σ,hc,St.refl hr,hA⟩ ?_
    rintro m a1 w1 ⟨hm1,fr1,h1,σ1,hcode,hs,hA1⟩
    cases m with
    | zero=>rw[ja]at hcode;cases hcode
    | succ m=>
     have IHm:sm P (aH P m):=ih m (by omega)
     rw[aU]at hcode
     have hcode2:gF (aH P m (.loop b)) (aH P m b fr1 h1)=some (e,frE,hE):=hcode
     unfold gF at hcode2
     split at hcode2
     ·rename_i fr2 h2 hb
      refine IHm b fr1 h1 .normal fr2 h2 hb σ1 w1 a1 _ hs.hr hA1 (λz σ2 a2 w2 hz hs2 hA2=>?_)
      cases z <;>first | exact hz.elim | skip
      exact⟨m,Nat.lt_succ_self m,by omega,fr2,h2,σ2,hcode2,hs.trans hs2,hA2⟩
     ·rename_i hne
      refine IHm b fr1 h1 e frE hE hcode2 σ1 w1 a1 _ hs.hr hA1 (λz σ2 a2 w2 hz hs2 hA2=>?_)
      cases z with
      | normal=>cases e <;>first | exact hz.elim | exact absurd hcode2 (hne _ _)
      | exit id=>exact hQ _ σ2 a2 w2 hz (hs.trans hs2) hA2
      | ret=>exact hQ _ σ2 a2 w2 hz (hs.trans hs2) hA2
      | goto l=>cases e <;>exact hz.elim
      | panic l=>cases e <;>exact hz.elim
      | outgrown=>cases e <;>exact hz.elim
   ·cases hc;exact wp_exit (hQ (.exit _) σ a w rfl (St.refl hr) hA)
   ·rename_i b
    refine wp_scope_straight ?_
    refine IH b fr h e frE hE hc σ w a _ hr hA (λz σ1 a1 w1 hz hs hA1=>?_)
    cases z with
    | goto l=>cases e <;>exact hz.elim
    | _=>exact hQ _ σ1 a1 w1 hz hs hA1
   ·cases hc;exact wp_ret (hQ .ret σ a w trivial (St.refl hr) hA)
   ·cases hc
theorem wT (hm:P.follows .mixedOrders=true) (hO:dm P orc){n:Nat}{g:FuncId}{args:List Value}{h h':AH}{v:Value}(hc:aK P (aH P n) g args h=some (v,h')){σ:Ren}{w:World}{args':Array Value}
  (hr:HR P σ h w) (ha:VRs σ args args'.toList):Calls P g args' w (λe w'=>∃v' σ',e = .returned v'/\St P σ h w σ' h' w'/\VR σ' v v'):=
 jK hO (sn hm hO n) g args h v h' hc σ w args' hr ha
end
end
end Eva
end
section
open Go Go.RowKit
namespace Eva
section
variable {P:Program}
def Rec.le (c d:Rec):Prop:=∀g args h r,c g args h=some r->d g args h=some r
def RC.le (c d:Code->Fr->AH->R):Prop:=∀x fr h r,c x fr h=some r->d x fr h=some r
theorem qH {c d:Rec}(hle:Rec.le c d){ops:Array Oper}{o:Oper}{fr:Fr}{h:AH}{r:FH}(hr:op1 P c ops o fr h=some r):op1 P d ops o fr h=some r:=by
 unfold op1 at hr⊢
 cases hw:cS ops fr o with
 | false=>rw[hw]at hr;exact hr
 | true=>
  rw[hw]at hr
  simp only[cond_true]at hr⊢
  cases hco:bB o with
  | false=>rw[hco]at hr;exact hr
  | true=>
   rw[hco]at hr
   simp only[cond_true]at hr⊢
   cases hk:aD P o with
   | val=>rw[hk]at hr;exact hr
   | lay=>rw[hk]at hr;exact hr
   | loud=>
    rw[hk]at hr
    have hr':kZ P c o fr h (evL P o fr h)=some r:=hr
    show kZ P d o fr h (evL P o fr h)=some r
    cases hl:evL P o fr h with
    | some x=>rw[hl]at hr';exact hr'
    | none=>
     rw[hl]at hr'
     have hr2:rQ P c o fr h (callee P o fr)=some r:=hr'
     show rQ P d o fr h (callee P o fr)=some r
     cases hc:callee P o fr with
     | none=>rw[hc]at hr2;exact hr2
     | some ga=>
      obtain⟨g,args⟩:=ga
      rw[hc]at hr2
      have hr3:vp fr o.dst (c g args h)=some r:=hr2
      show vp fr o.dst (d g args h)=some r
      cases hg:c g args h with
      | none=>rw[hg]at hr3;cases hr3
      | some x=>rw[hle g args h x hg];rw[hg]at hr3;exact hr3
theorem qI {c d:Rec}(hle:Rec.le c d){ops:Array Oper}:∀(l:List Oper){fr:Fr}{h:AH}{r:FH},ee P c ops l fr h=some r->ee P d ops l fr h=some r
 | [],fr,h,r,hr=>hr
 | o :: l,fr,h,r,hr=>by
  have hr':ip (ee P c ops l) (op1 P c ops o fr h)=some r:=hr
  show ip (ee P d ops l) (op1 P d ops o fr h)=some r
  cases h1:op1 P c ops o fr h with
  | none=>rw[h1]at hr';cases hr'
  | some fh=>
   obtain⟨fr1,h1'⟩:=fh
   rw[qH hle h1]
   rw[h1]at hr'
   exact qI hle l hr'
theorem mT {c d:Rec}(hle:Rec.le c d){ops:Array Oper}:∀(l:List (Nat×List Nat)){fr:Fr}{h:AH}{r:FH},drawn P c ops l fr h=some r->drawn P d ops l fr h=some r
 | [],fr,h,r,hr=>hr
 | (j,again) :: l,fr,h,r,hr=>by
  have hr':cG P c ops j again (drawn P c ops l) fr h=some r:=hr
  show cG P d ops j again (drawn P d ops l) fr h=some r
  unfold cG at hr'⊢
  cases ho:ops[j]? with
  | none=>rw[ho]at hr';cases hr'
  | some o=>
   rw[ho]at hr'
   simp only at hr'⊢
   cases h1:op1 P c ops o fr h with
   | none=>rw[h1]at hr';cases hr'
   | some fh=>
    obtain⟨fr1,h1'⟩:=fh
    rw[qH hle h1]
    rw[h1]at hr'
    have hr2:cond (aO (ce P ops fr1 h1') (agn ops fr o again)) (drawn P c ops l fr1 h1') none=some r:=hr'
    show cond (aO (ce P ops fr1 h1') (agn ops fr o again)) (drawn P d ops l fr1 h1') none=some r
    cases ha:aO (ce P ops fr1 h1') (agn ops fr o again) with
    | false=>rw[ha]at hr2;cases hr2
    | true=>rw[ha]at hr2;exact mT hle l hr2
theorem fu {c d:Code->Fr->AH->R}(hle:RC.le c d):Rec.le (aK P c) (aK P d):=by
 intro g args h r hr
 unfold aK at hr⊢
 cases ho:orc g args h with
 | some x=>rw[ho]at hr;exact hr
 | none=>
  rw[ho]at hr
  simp only at hr⊢
  unfold calls at hr⊢
  cases hf:P.funcs[g]? with
  | none=>rw[hf]at hr;cases hr
  | some fn=>
   rw[hf]at hr
   simp only at hr⊢
   unfold vq at hr⊢
   cases hb:fn.body with
   | none=>rw[hb]at hr;cases hr
   | some b=>
    rw[hb]at hr
    simp only at hr⊢
    cases hn:Nat.ble args.length fn.ntmps with
    | false=>rw[hn]at hr;exact hr
    | true=>
     rw[hn]at hr
     simp only[cond_true]at hr⊢
     cases hc:c b ⟨fn.ntmps,frame 0 args .nil⟩ h with
     | none=>rw[hc]at hr;cases hr
     | some x=>rw[hle _ _ _ _ hc];rw[hc]at hr;exact hr
theorem AK {c d:Code->Fr->AH->R}(hle:RC.le c d):RC.le (stepO P c) (stepO P d):=by
 intro x fr h r hr
 unfold stepO at hr⊢
 split at hr
 ·exact hr
 ·exact hr
 ·rename_i id ops dr
  unfold Cu at hr⊢
  cases dr with
  | true=>
   simp only at hr⊢
   cases hp:fa P ops with
   | none=>rw[hp]at hr;cases hr
   | some l=>
    rw[hp]at hr
    simp only at hr⊢
    cases hd:drawn P (aK P c) ops l fr h with
    | none=>rw[hd]at hr;cases hr
    | some y=>rw[mT (fu hle) l hd];rw[hd]at hr;exact hr
  | false=>
   simp only at hr⊢
   cases hd:ee P (aK P c) ops ops.toList fr h with
   | none=>rw[hd]at hr;cases hr
   | some y=>rw[qI (fu hle) _ hd];rw[hd]at hr;exact hr
 ·rename_i a b
  cases ha:c a fr h with
  | none=>rw[ha]at hr;cases hr
  | some y=>
   rw[hle _ _ _ _ ha]
   rw[ha]at hr
   unfold gF at hr⊢
   split at hr
   ·rename_i fr1 h1 he;cases he;exact hle _ _ _ _ hr
   ·rename_i hne
    obtain⟨e,fr1,h1⟩:=y
    cases e with
    | normal=>exact absurd rfl (hne _ _)
    | exit _=>exact hr
    | ret=>exact hr
 ·rename_i x a b
  cases hx:dT x with
  | false=>rw[hx]at hr;exact hr
  | true=>
   rw[hx]at hr
   simp only[cond_true]at hr⊢
   unfold mB at hr⊢
   split at hr
   ·exact hle _ _ _ _ hr
   ·exact hle _ _ _ _ hr
   ·exact hr
 ·rename_i id b
  cases hb:c b fr h with
  | none=>rw[hb]at hr;cases hr
  | some y=>rw[hle _ _ _ _ hb];rw[hb]at hr;exact hr
 ·rename_i b
  cases hb:c b fr h with
  | none=>rw[hb]at hr;cases hr
  | some y=>
   rw[hle _ _ _ _ hb]
   rw[hb]at hr
   unfold gF at hr⊢
   split at hr
   ·rename_i fr1 h1 he;cases he;exact hle _ _ _ _ hr
   ·rename_i hne
    obtain⟨e,fr1,h1⟩:=y
    cases e with
    | normal=>exact absurd rfl (hne _ _)
    | exit _=>exact hr
    | ret=>exact hr
 ·exact hr
 ·exact hle _ _ _ _ hr
 ·exact hr
 ·exact hr
theorem eU {n m:Nat}(h:n<=m):RC.le (aH P n) (aH P m):=by
 have one:∀n,RC.le (aH P n) (aH P (n+1)):=by
  intro n
  induction n with
  | zero=>intro x fr h r hr;rw[ja]at hr;cases hr
  | succ n ih=>intro x fr h r hr;rw[aU]at hr⊢;exact AK ih x fr h r hr
 induction h with
 | refl=>exact λ_ _ _ _ hr=>hr
 | step _ ih=>exact λx fr h r hr=>one _ x fr h r (ih x fr h r hr)
def W (P:Program) (c:Code) (fr:Fr) (h:AH) (Q:Out->Fr->AH->Prop):Prop:=∃n e fr' h',aH P n c fr h=some (e,fr',h')/\Q e fr' h'
def WC (P:Program) (g:FuncId) (args:List Value) (h:AH) (Q:Value->AH->Prop):Prop:=∃n v h',aK P (aH P n) g args h=some (v,h')/\Q v h'
def WO (P:Program) (ops:Array Oper) (l:List Oper) (fr:Fr) (h:AH) (Q:Fr->AH->Prop):Prop:=∃n fr' h',ee P (aK P (aH P n)) ops l fr h=some (fr',h')/\Q fr' h'
def WD (P:Program) (ops:Array Oper) (l:List (Nat×List Nat)) (fr:Fr) (h:AH) (Q:Fr->AH->Prop):Prop:=∃n fr' h',drawn P (aK P (aH P n)) ops l fr h=some (fr',h')/\Q fr' h'
theorem W.mono {c:Code}{fr:Fr}{h:AH}{Q Q':Out->Fr->AH->Prop}(hw:W P c fr h Q) (hq:∀e fr' h',Q e fr' h'->Q' e fr' h'):W P c fr h Q':=
 let ⟨n,e,fr',h',a,b⟩:=hw;⟨n,e,fr',h',a,hq _ _ _ b⟩
theorem WC.mono {g:FuncId}{args:List Value}{h:AH}{Q Q':Value->AH->Prop}(hw:WC P g args h Q) (hq:∀v h',Q v h'->Q' v h'):WC P g args h Q':=
 let ⟨n,v,h',a,b⟩:=hw;⟨n,v,h',a,hq _ _ b⟩
theorem W.skip {fr:Fr}{h:AH}{Q:Out->Fr->AH->Prop}(hq:Q .normal fr h):W P .skip fr h Q:=⟨1,_,_,_,rfl,hq⟩
theorem W.label {l:Nat}{fr:Fr}{h:AH}{Q:Out->Fr->AH->Prop}(hq:Q .normal fr h):W P (.label l) fr h Q:=⟨1,_,_,_,rfl,hq⟩
theorem W.exit {id:Nat}{fr:Fr}{h:AH}{Q:Out->Fr->AH->Prop}(hq:Q (.exit id) fr h):W P (.exit id) fr h Q:=⟨1,_,_,_,rfl,hq⟩
theorem W.ret {fr:Fr}{h:AH}{Q:Out->Fr->AH->Prop}(hq:Q .ret fr h):W P .ret fr h Q:=⟨1,_,_,_,rfl,hq⟩
theorem W.scope {b:Code}{fr:Fr}{h:AH}{Q:Out->Fr->AH->Prop}(hw:W P b fr h Q):W P (.scope b) fr h Q:=by
 obtain⟨n,e,fr',h',a,q⟩:=hw
 exact⟨n+1,e,fr',h',a,q⟩
def Dx (P:Program) (b:Code) (Q:Out->Fr->AH->Prop):Out->Fr->AH->Prop
 | .normal,fr,h=>W P b fr h Q
 | e,fr,h=>Q e fr h
theorem W.seq {a b:Code}{fr:Fr}{h:AH}{Q:Out->Fr->AH->Prop}(hw:W P a fr h (Dx P b Q)):W P (.seq a b) fr h Q:=by
 obtain⟨n,e,fr',h',ha,q⟩:=hw
 cases e with
 | normal=>
  obtain⟨m,e2,fr2,h2,hb,q2⟩:=q
  refine⟨max n m+1,e2,fr2,h2,?_,q2⟩
  rw[aU]
  show gF (aH P (max n m) b) (aH P (max n m) a fr h)=_
  rw[eU (Nat.le_max_left n m) _ _ _ _ ha]
  exact eU (Nat.le_max_right n m) _ _ _ _ hb
 | exit id=>exact⟨n+1,_,fr',h',by rw[aU];show gF (aH P n b) (aH P n a fr h)=_;rw[ha];rfl,q⟩
 | ret=>exact⟨n+1,_,fr',h',by rw[aU];show gF (aH P n b) (aH P n a fr h)=_;rw[ha];rfl,q⟩
def mU (id:Nat) (Q:Out->Fr->AH->Prop):Out->Fr->AH->Prop
 | .exit i,fr,h=>if i=id then Q .normal fr h else Q (.exit i) fr h
 | e,fr,h=>Q e fr h
theorem W.block {id:Nat}{b:Code}{fr:Fr}{h:AH}{Q:Out->Fr->AH->Prop}(hw:W P b fr h (mU id Q)):W P (.block id b) fr h Q:=by
 obtain⟨n,e,fr',h',ha,q⟩:=hw
 have hc:aH P (n+1) (.block id b) fr h=gN id (some (e,fr',h')):=by
  rw[aU];show gN id (aH P n b fr h)=_;rw[ha]
 cases e with
 | exit i=>
  by_cases hi:i=id
  ·subst hi
   refine⟨n+1,.normal,fr',h',?_,by simpa[mU]using q⟩
   rw[hc];simp[gN,Nat.beq_refl]
  ·have:Nat.beq i id=false:=by
    cases hb:Nat.beq i id with
    | false=>rfl
    | true=>exact absurd (aq hb) hi
   refine⟨n+1,.exit i,fr',h',?_,by simpa[mU,hi]using q⟩
   rw[hc];simp[gN,this]
 | normal=>exact⟨n+1,.normal,fr',h',hc,q⟩
 | ret=>exact⟨n+1,.ret,fr',h',hc,q⟩
theorem W.cond {x:Operand}{a b:Code}{fr:Fr}{h:AH}{Q:Out->Fr->AH->Prop}(hx:dT x=true){t:Bool}(ht:ev fr x = .bool t) (ha:t=true->W P a fr h Q) (hb:t=false->W P b fr h Q):W P (.cond x a b) fr h Q:=by
 cases t with
 | true=>
  obtain⟨n,e,fr',h',h1,q⟩:=ha rfl
  refine⟨n+1,e,fr',h',?_,q⟩
  rw[aU]
  show _root_.cond (dT x) (mB (λ_=>aH P n a fr h) (λ_=>aH P n b fr h) (ev fr x)) none=_
  rw[hx,ht];exact h1
 | false=>
  obtain⟨n,e,fr',h',h1,q⟩:=hb rfl
  refine⟨n+1,e,fr',h',?_,q⟩
  rw[aU]
  show _root_.cond (dT x) (mB (λ_=>aH P n a fr h) (λ_=>aH P n b fr h) (ev fr x)) none=_
  rw[hx,ht];exact h1
def Cv (I:Nat->Fr->AH->Prop) (m:Nat) (Q:Out->Fr->AH->Prop):Out->Fr->AH->Prop
 | .normal,fr,h=>∃k,k<m/\I k fr h
 | e,fr,h=>Q e fr h
theorem W.loop {b:Code}{fr:Fr}{h:AH}{Q:Out->Fr->AH->Prop}(I:Nat->Fr->AH->Prop) (m:Nat) (h0:I m fr h) (hr:∀m fr h,I m fr h->W P b fr h (Cv I m Q)):W P (.loop b) fr h Q:=by
 induction m using Nat.strongRecOn generalizing fr h with
 | _ m ih=>
  obtain⟨n,e,fr',h',ha,q⟩:=hr m fr h h0
  cases e with
  | normal=>
   obtain⟨k,hk,hI⟩:=q
   obtain⟨n2,e2,fr2,h2,hb,q2⟩:=ih k hk hI
   refine⟨max n n2+1,e2,fr2,h2,?_,q2⟩
   rw[aU]
   show gF (aH P (max n n2) (.loop b)) (aH P (max n n2) b fr h)=_
   rw[eU (Nat.le_max_left n n2) _ _ _ _ ha]
   exact eU (Nat.le_max_right n n2) _ _ _ _ hb
  | exit id=>exact⟨n+1,_,fr',h',by rw[aU];show gF (aH P n (.loop b)) (aH P n b fr h)=_;rw[ha];rfl,q⟩
  | ret=>exact⟨n+1,_,fr',h',by rw[aU];show gF (aH P n (.loop b)) (aH P n b fr h)=_;rw[ha];rfl,q⟩
theorem W.region {id:Nat}{ops:Array Oper}{fr:Fr}{h:AH}{Q:Out->Fr->AH->Prop}(hw:WO P ops ops.toList fr h (λfr' h'=>Q .normal fr' h')):W P (.region id ops false) fr h Q:=by
 obtain⟨n,fr',h',ha,q⟩:=hw
 exact⟨n+1,.normal,fr',h',by rw[aU];show nor (ee P (aK P (aH P n)) ops ops.toList fr h)=_;rw[ha];rfl,q⟩
theorem W.regionD {id:Nat}{ops:Array Oper}{fr:Fr}{h:AH}{Q:Out->Fr->AH->Prop}{l:List (Nat×List Nat)}(hp:fa P ops=some l) (hw:WD P ops l fr h (λfr' h'=>Q .normal fr' h')):W P (.region id ops true) fr h Q:=by
 obtain⟨n,fr',h',ha,q⟩:=hw
 refine⟨n+1,.normal,fr',h',?_,q⟩
 rw[aU]
 show(match fa P ops with | some l=>nor (drawn P (aK P (aH P n)) ops l fr h) | none=>none)=_
 rw[hp]
 show nor (drawn P (aK P (aH P n)) ops l fr h)=_
 rw[ha];rfl
theorem WO.nil {ops:Array Oper}{fr:Fr}{h:AH}{Q:Fr->AH->Prop}(hq:Q fr h):WO P ops [] fr h Q:=⟨0,fr,h,rfl,hq⟩
theorem WO.cons {ops:Array Oper}{o:Oper}{l:List Oper}{fr:Fr}{h:AH}{Q:Fr->AH->Prop}(hw:∃n fr' h',op1 P (aK P (aH P n)) ops o fr h=some (fr',h')/\WO P ops l fr' h' Q):WO P ops (o :: l) fr h Q:=by
 obtain⟨n,fr',h',ha,m,fr2,h2,hb,q⟩:=hw
 refine⟨max n m,fr2,h2,?_,q⟩
 show ip (ee P (aK P (aH P (max n m))) ops l) (op1 P (aK P (aH P (max n m))) ops o fr h)=_
 rw[qH (fu (eU (Nat.le_max_left n m))) ha]
 exact qI (fu (eU (Nat.le_max_right n m))) l hb
def W1 (P:Program) (ops:Array Oper) (o:Oper) (fr:Fr) (h:AH) (K:Fr->AH->Prop):Prop:=∃n fr' h',op1 P (aK P (aH P n)) ops o fr h=some (fr',h')/\K fr' h'
theorem W1.val {ops:Array Oper}{o:Oper}{fr:Fr}{h:AH}{K:Fr->AH->Prop}{v:Value}(hg:o.guard=none) (hc:bB o=true) (hk:aD P o = .val) (hv:evV P o fr h=some v) (hq:K (cT fr o.dst v) h):W1 P ops o fr h K:=by
 refine⟨0,_,_,?_,hq⟩
 unfold op1 cS
 rw[hg,hc,hk]
 show yj fr h o.dst (evV P o fr h)=_
 rw[hv];rfl
theorem W1.lay {ops:Array Oper}{o:Oper}{fr:Fr}{h:AH}{K:Fr->AH->Prop}{b:AO}{f:Nat->Value}(hg:o.guard=none) (hc:bB o=true) (hk:aD P o = .lay) (hv:evA P o fr=some (b,f)) (hq:K (cT fr o.dst (f h.next)) (h.new b)):W1 P ops o fr h K:=by
 refine⟨0,_,_,?_,hq⟩
 unfold op1 cS
 rw[hg,hc,hk]
 show AE fr h o.dst (evA P o fr)=_
 rw[hv];rfl
theorem W1.loud {ops:Array Oper}{o:Oper}{fr:Fr}{h:AH}{K:Fr->AH->Prop}{v:Value}{h':AH}(hg:o.guard=none) (hc:bB o=true) (hk:aD P o = .loud) (hv:evL P o fr h=some (v,h')) (hq:K (cT fr o.dst v) h'):W1 P ops o fr h K:=by
 refine⟨0,_,_,?_,hq⟩
 unfold op1 cS
 rw[hg,hc,hk]
 show kZ P _ o fr h (evL P o fr h)=_
 rw[hv];rfl
theorem W1.call {ops:Array Oper}{o:Oper}{fr:Fr}{h:AH}{K:Fr->AH->Prop}{g:FuncId}{args:List Value}(hg:o.guard=none) (hc:bB o=true) (hk:aD P o = .loud) (hl:evL P o fr h=none) (hcal:callee P o fr=some (g,args))
  (hw:WC P g args h (λv h'=>K (cT fr o.dst v) h')):W1 P ops o fr h K:=by
 obtain⟨n,v,h',ha,q⟩:=hw
 refine⟨n,_,_,?_,q⟩
 unfold op1 cS
 rw[hg,hc,hk]
 show kZ P _ o fr h (evL P o fr h)=_
 rw[hl]
 show rQ P _ o fr h (callee P o fr)=_
 rw[hcal]
 show vp fr o.dst (aK P (aH P n) g args h)=_
 rw[ha];rfl
theorem W1.wanted {ops:Array Oper}{o:Oper}{fr:Fr}{h:AH}{K:Fr->AH->Prop}(hw:cS ops fr o=true) (hq:W1 P ops { o with guard:=none } fr h K):W1 P ops o fr h K:=by
 obtain⟨n,fr',h',ha,q⟩:=hq
 refine⟨n,fr',h',?_,q⟩
 unfold op1 at ha⊢
 rw[hw]
 exact ha
theorem W1.unwanted {ops:Array Oper}{o:Oper}{fr:Fr}{h:AH}{K:Fr->AH->Prop}(hw:cS ops fr o=false) (hq:K (cT fr o.dst undef) h):W1 P ops o fr h K:=by
 refine⟨0,_,_,?_,hq⟩
 unfold op1
 rw[hw];rfl
theorem WO.op {ops:Array Oper}{o:Oper}{l:List Oper}{fr:Fr}{h:AH}{Q:Fr->AH->Prop}(hw:W1 P ops o fr h (λfr' h'=>WO P ops l fr' h' Q)):WO P ops (o :: l) fr h Q:=WO.cons hw
theorem WD.nil {ops:Array Oper}{fr:Fr}{h:AH}{Q:Fr->AH->Prop}(hq:Q fr h):WD P ops [] fr h Q:=⟨0,fr,h,rfl,hq⟩
theorem WD.op {ops:Array Oper}{j:Nat}{again:List Nat}{l:List (Nat×List Nat)}{o:Oper}{fr:Fr}{h:AH}{Q:Fr->AH->Prop}(ho:ops[j]? = some o)
  (hw:W1 P ops o fr h (λfr' h'=>aO (ce P ops fr' h') (agn ops fr o again)=true/\WD P ops l fr' h' Q)):WD P ops ((j,again) :: l) fr h Q:=by
 obtain⟨n,fr',h',ha,hs,m,fr2,h2,hb,q⟩:=hw
 refine⟨max n m,fr2,h2,?_,q⟩
 show cG P (aK P (aH P (max n m))) ops j again (drawn P (aK P (aH P (max n m))) ops l) fr h=_
 unfold cG
 rw[ho]
 simp only
 rw[qH (fu (eU (Nat.le_max_left n m))) ha]
 show cond (aO (ce P ops fr' h') (agn ops fr o again)) (drawn P (aK P (aH P (max n m))) ops l fr' h') none=_
 rw[hs]
 exact mT (fu (eU (Nat.le_max_right n m))) l hb
def Es (P:Program) (fn:Func) (Q:Value->AH->Prop):Out->Fr->AH->Prop
 | .exit _,_,_=>False
 | _,fr,h=>∃vs,iZ P fr h fn.results.toList=some vs/\Q (one vs) h
theorem WC.orc {g:FuncId}{args:List Value}{h h':AH}{v:Value}{Q:Value->AH->Prop}(ho:orc g args h=some (v,h')) (K:Q v h'):WC P g args h Q:=
 ⟨0,v,h',by unfold aK;rw[ho],K⟩
theorem WC.enter {g:FuncId}{fn:Func}{c:Code}{args:List Value}{h:AH}{Q:Value->AH->Prop}(ho:Eva.orc g args h=none) (hf:P.funcs[g]? = some fn) (hb:fn.body=some c) (hn:args.length<=fn.ntmps) (hw:W P c ⟨fn.ntmps,frame 0 args .nil⟩ h (Es P fn Q)):WC P g args h Q:=by
 obtain⟨n,e,fr',h',ha,q⟩:=hw
 have hcall:aK P (aH P n) g args h=rS P fn (some (e,fr',h')):=by
  unfold aK
  rw[ho]
  simp only
  unfold calls
  rw[hf]
  simp only
  unfold vq
  rw[hb]
  simp only
  rw[show Nat.ble args.length fn.ntmps=true from Nat.ble_eq_true_of_le hn,ha]
  rfl
 cases e with
 | exit i=>exact q.elim
 | normal=>obtain⟨vs,h1,h2⟩:=q;exact⟨n,one vs,h',by rw[hcall];simp only[rS,mA,h1],h2⟩
 | ret=>obtain⟨vs,h1,h2⟩:=q;exact⟨n,one vs,h',by rw[hcall];simp only[rS,mA,h1],h2⟩
theorem WC.calls (hm:P.follows .mixedOrders=true) (hO:dm P Eva.orc){g:FuncId}{args:List Value}{h:AH}{Q:Value->AH->Prop}(hw:WC P g args h Q){σ:Ren}{w:World}{args':Array Value}(hr:HR P σ h w) (ha:VRs σ args args'.toList) :
  Calls P g args' w (λe w'=>∃v v' h' σ',e = .returned v'/\Q v h'/\St P σ h w σ' h' w'/\VR σ' v v'):=by
 obtain⟨n,v,h',hc,q⟩:=hw
 exact(wT hm hO hc hr ha).mono λe w' ⟨v',σ',a,b,c⟩=>⟨v,v',h',σ',a,q,b,c⟩
end
end Eva
end
section
open Go Go.RowKit
namespace Eva
noncomputable section
abbrev FF:=Nat->Option Value
def FF.put (F:FF) (d:Nat) (v:Value):FF:=λk=>cond (Nat.beq k d) (some v) (F k)
def aF:List Value->FF
 | [],_=>none
 | v :: _,0=>some v
 | _ :: l,k+1=>aF l k
def evF (F:FF):Operand->Value
 | .tmp t=>cd (F t)
 | .const v=>v
 | .global g=>.pointer (some ⟨g,0,none⟩)
 | .func f=>.func (.func f) #[] #[]
def qJ (F:FF):Option Operand->Option (Option Nat)
 | none=>some none
 | some x=>(bE (evF F x)).map some
def mV (P:Program) (o:Oper) (F:FF):Option Value:=
 cond (aO (λx=>pl (evF F x)) o.op.operands.toList) (ml (au P (execOp (evF F) o))) none
def AL (P:Program) (o:Oper) (F:FF) (d:Option TypeDesc) (x:Value) (lo hi mx:Option (Option Nat)):Option Value:=
 match x with
 | .string _=>mV P o F
 | .slice a len K=>match d,lo,hi,mx with
  | some (.slice e),some l,some hh,some m=>aE P e a len K l hh m
  | _,_,_,_=>none
 | .pointer (some b)=>match d,lo,hi,mx with
  | some (.array n e),some l,some hh,some none=>qf P n e b l hh
  | _,_,_,_=>none
 | _=>none
def AM (op:BinOp) (P:Program) (o:Oper) (F:FF):Bool->Option Value
 | true=>match op with
  | .eql=>some (.bool false)
  | .neq=>some (.bool true)
  | _=>none
 | false=>mV P o F
def mW (P:Program) (op:BinOp) (t:TypeId) (o:Oper) (F:FF) (x y:Value):Option Value:=
 match x,y with
 | .int k a,.int l b=>cond (k == l) (pg op k a b (mV P o F)) (mV P o F)
 | _,_=>AM op P o F (jE (P.underlying t) x y)
def Dy (P:Program) (o:Oper) (F:FF) (h:AH) (d:Option TypeDesc) (x:Value):Option Value:=
 match x with
 | .slice _ n _=>cond (cC d) (some (.int .i64 n)) none
 | .map (some r)=>cond (fR d) (qk h r) none
 | .string s=>match d with
  | some .string=>some (.int .i64 s.size)
  | _=>none
 | _=>none
def vC (c:Call) (F:FF):Option Value:=
 match c.args.toList with
 | [x]=>some (evF F x)
 | _=>none
def Cw (P:Program) (o:Oper) (F:FF) (h:AH) (c:Call):Option Value:=
 match c.callee with
 | .builtin .len=>match vC c F with
  | some x=>Dy P o F h (eD P c) x
  | none=>none
 | .builtin .cap=>match vC c F with
  | some x=>tW (eD P c) x
  | none=>none
 | _=>mV P o F
def yC (F:FF) (ps:Array (Nat×Operand)):List (Nat×Value):=ps.toList.map λp=>(p.1,evF F p.2)
def Cx (P:Program) (o:Oper) (F:FF) (h:AH) (s d:TypeId) (x:Value):Option Value:=
 match x with
 | .slice a len _=>match P.underlying s,P.underlying d with
  | some (.slice e),some .string=>match P.underlying e with
   | some (.int .u8)=>match fS h a len with
    | some l=>match eM l with
     | some bs=>some (.string ⟨bs.toArray⟩)
     | none=>none
    | none=>none
   | _=>none
  | _,_=>none
 | _=>mV P o F
def iI (P:Program) (o:Oper) (F:FF) (h:AH):Option Value:=
 match o.op with
 | .move x=>some (evF F x)
 | .pick c a b=>ye (evF F c) (evF F a) (evF F b)
 | .load t x=>gB P t (evF F x) h
 | .nilCheck x=>AA (evF F x)
 | .makeInterface t x=>qe P t (evF F x)
 | .makeFunc fn a b=>some (.func fn (a.map (evF F)) (b.map (evF F)))
 | .slice t x lo hi mx=>AL P o F (P.underlying t) (evF F x) (qJ F lo) (qJ F hi) (qJ F mx)
 | .fieldAddr s x f=>fQ P (P.underlying s) (evF F x) f
 | .field t x f=>qg P (P.underlying t) (evF F x) f
 | .indexAddr t x ix=>di P (P.underlying t) (evF F x) (bE (evF F ix))
 | .index t x ix=>qh P (P.underlying t) (evF F x) (bE (evF F ix))
 | .extract x i=>jB (evF F x) i
 | .lookup t x ix ok=>bz P (P.underlying t) (evF F x) (evF F ix) ok h
 | .binOp op t x y _=>mW P op t o F (evF F x) (evF F y)
 | .call c=>Cw P o F h c
 | .build t ps=>ql P (P.underlying t) (P.info? t) (yC F ps)
 | .convert s d x=>Cx P o F h s d (evF F x)
 | .typeAssert x _ t ok=>lT P t (evF F x) ok
 | .unOp _ _ _=>mV P o F
 | _=>none
def AN (P:Program) (o:Oper) (F:FF):Option Lay:=
 match o.op with
 | .alloc t=>qm t (P.info? t)
 | .box t x=>AC t (evF F x)
 | .buildSlice t len ps=>eN P (P.underlying t) len (yC F ps)
 | .makeMap t r=>AD (P.underlying t) (r.map (evF F))
 | .makeSlice t l c=>ed P (P.underlying t) (bE (evF F l)) (bE (evF F c))
 | .convert s d x=>qn P (P.underlying s) (P.underlying d) (evF F x)
 | .range t x=>qp (P.underlying t) (evF F x)
 | _=>none
def yD (c:Call) (F:FF):Option (Value×Value):=
 match c.args.toList with
 | [x,y]=>some (evF F x,evF F y)
 | _=>none
def uk (P:Program) (F:FF) (h:AH) (c:Call):Option VH:=
 match c.callee with
 | .builtin .append=>match yD c F with
  | some (s,x)=>ai P h (eD P c) (wD P c) s x
  | none=>none
 | .builtin .clear=>match vC c F with
  | some x=>gL P h (eD P c) x
  | none=>none
 | .builtin .copy=>match yD c F with
  | some (x,s)=>iN P h (eD P c) x s
  | none=>none
 | _=>none
def wU (P:Program) (o:Oper) (F:FF) (h:AH):Option VH:=
 match o.op with
 | .assign x=>some (evF F x,h)
 | .store t x v=>ku h (P.info? t) (evF F x) (evF F v)
 | .mapUpdate t m k v=>fT P h (P.underlying t) (evF F m) (evF F k) (evF F v)
 | .insert t m k v=>fT P h (P.underlying t) (evF F m) (evF F k) (evF F v)
 | .convert s d x=>vn P h s d (evF F x)
 | .call c=>uk P F h c
 | _=>none
def yE (P:Program) (F:FF) (c:Call):Value->Option (FuncId×List Value)
 | .func (.func g) a b=>cond (eZ P g) (some (g,a.toList ++ c.args.toList.map (evF F) ++ b.toList)) none
 | _=>none
def vD (P:Program) (o:Oper) (F:FF):Option (FuncId×List Value):=
 match o.op with
 | .call c=>match c.callee with
  | .value f=>yE P F c (evF F f)
  | _=>none
 | _=>none
def gC (ops:Array Oper) (F:FF) (o:Oper):Bool:=
 match o.guard with
 | none=>true
 | some (j,b)=>match ops[j]? with
  | some g=>match g.dst with
   | some d=>isB b (F d)
   | none=>false
  | none=>false
def vE (F:FF) (d:Option Tmp):Option Value->Bool
 | some v=>match d with
  | some d=>match F d with
   | some u=>eqv 6 u v
   | none=>false
  | none=>true
 | none=>false
def fZ (P:Program) (ops:Array Oper) (F:FF) (h:AH) (j:Nat):Bool:=
 match ops[j]? with
 | some o=>cond (looks P o.op) (cond (gC ops F o) (vE F o.dst (iI P o F h)) true) true
 | none=>false
section
variable {P:Program}{o:Oper}{fr:Fr}{h:AH}
theorem Et:ev fr=evF fr.get:=by funext x;cases x <;>rfl
theorem Dz:evV P o fr h=iI P o fr.get h:=rfl
theorem DA:evA P o fr=AN P o fr.get:=rfl
theorem BY:evL P o fr h=wU P o fr.get h:=rfl
theorem yF:callee P o fr=vD P o fr.get:=rfl
theorem kC {ops:Array Oper}:cS ops fr o=gC ops fr.get o:=rfl
end
end
end Eva
end
section
open Go Go.RowKit
namespace Eva
structure oK (N:Nat) (F:FF) (fr:Fr):Prop where
 n:fr.n=N
 get:fr.get=F
noncomputable section
def ldC (h:AH) (b o:Nat):Option Value:=
 match aS h b with
 | some (c,_,_)=>c[o]?
 | none=>none
def ldN (h:AH) (b o n:Nat):Option (List Value):=
 match aS h b with
 | some (c,_,_)=>mg c o n
 | none=>none
def stC (h:AH) (b o:Nat) (vs:List Value):Option AH:=cL h ⟨b,o,none⟩ vs
def ac:Option (Nat×Value)->Value
 | none=>.nilIface
 | some (t,v)=>.iface t v
def BZ (fn:Func):Code:=fn.body.getD .skip
def ldV (P:Program) (t:TypeId) (h:AH) (b o:Nat):Option Value:=gB P t (.pointer (some ⟨b,o,none⟩)) h
def ly (P:Program) (t:TypeId):Option (Option Nat):=
 match P.underlying t,P.info? t with
 | some d,some i=>some (cond (gI d) (some i.size) none)
 | _,_=>none
theorem DB {P:Program}{t:TypeId}{h:AH}{b o:Nat}{v:Value}(ht:ly P t=some none) (hl:ldC h b o=some v):ldV P t h b o=some v:=by
 unfold ldV gB ldC at *
 simp only
 split at hl
 ·rename_i c e f hc
  rw[hc]
  simp only
  unfold ly at ht
  unfold fP
  split at ht
  ·rename_i dd i h1 h2
   simp only[h1,h2]
   unfold rO
   cases ha:gI dd with
   | true=>rw[ha]at ht;cases ht
   | false=>exact hl
  ·cases ht
 ·cases hl
theorem DC {P:Program}{t:TypeId}{h:AH}{b o n:Nat}{c:List Value}(ht:ly P t=some (some n)) (hl:ldN h b o n=some c):ldV P t h b o=some (.agg c.toArray):=by
 unfold ldV gB ldN at *
 simp only
 split at hl
 ·rename_i c' e f hc
  rw[hc]
  simp only
  unfold ly at ht
  unfold fP
  split at ht
  ·rename_i dd i h1 h2
   simp only[h1,h2]
   unfold rO
   cases ha:gI dd with
   | false=>rw[ha]at ht;cases ht
   | true=>
    rw[ha]at ht
    injection ht with ht;injection ht with ht
    simp only[cond_true]
    rw[ht,hl];rfl
  ·cases ht
 ·cases hl
def V (P:Program) (N:Nat) (c:Code) (F:FF) (h:AH) (Q:Out->FF->AH->Prop):Prop:=
 ∀fr,oK N F fr->W P c fr h (λe fr' h'=>∃F',oK N F' fr'/\Q e F' h')
def VD (P:Program) (N:Nat) (ops:Array Oper) (l:List (Nat×List Nat)) (F:FF) (h:AH) (Q:FF->AH->Prop):Prop:=
 ∀fr,oK N F fr->WD P ops l fr h (λfr' h'=>∃F',oK N F' fr'/\Q F' h')
def AG (P:Program) (ops:Array Oper) (F:FF) (h:AH) (again:List Nat):Prop:=aO (fZ P ops F h) again=true
def sq (F:FF):Option Tmp->Value->FF
 | some d,v=>F.put d v
 | none,_=>F
inductive qK (P:Program) (F:FF) (h:AH):List ResultVar->List Value->Prop
 | nil:qK P F h [] []
 | tmp {t:Nat}{v:Value}{l:List ResultVar}{vs:List Value}:F t=some v->qK P F h l vs->qK P F h (.tmp t :: l) (v :: vs)
 | cell {a t b o:Nat}{v:Value}{l:List ResultVar}{vs:List Value}:F a=some (.pointer (some ⟨b,o,none⟩))->ldV P t h b o=some v->qK P F h l vs->qK P F h (.cell a t :: l) (v :: vs)
theorem qK.ok {P:Program}{N:Nat}{F:FF}{h:AH}{fr:Fr}(hs:oK N F fr){l:List ResultVar}{vs:List Value}(hr:qK P F h l vs):iZ P fr h l=some vs:=by
 induction hr with
 | nil=>rfl
 | @tmp t v l vs hF _ ih=>
  show(iZ P fr h l).map (cd (fr.get t) :: ·)=_
  rw[ih,hs.get,hF];rfl
 | @cell a t b o v l vs hF hl _ ih=>
  show AF P t h (cd (fr.get a)) (iZ P fr h l)=_
  rw[ih,hs.get,hF]
  unfold AF
  have:gB P t (cd (some (.pointer (some ⟨b,o,none⟩)))) h=some v:=hl
  rw[this]
inductive SF where
 | next (c:Code)
 | blk (id:Nat)
 | rnd (g:FF->AH->Prop)
inductive Cfg where
 | code (c:Code) (k:List SF) (F:FF) (h:AH)
 | ops (o:Array Oper) (l:List (Nat×List Nat)) (k:List SF) (F:FF) (h:AH)
 | chk (o:Array Oper) (a:List Nat) (l:List (Nat×List Nat)) (k:List SF) (F:FF) (h:AH)
 | out (e:Out) (k:List SF) (F:FF) (h:AH)
 | res (l:List ResultVar) (acc:List Value) (F:FF) (h:AH)
 | bad
section
variable (P:Program) (N:Nat) (rs:List ResultVar) (Q:Value->AH->Prop)
def EL (n s:FF->AH->Prop):Out->FF->AH->Prop
 | .normal=>n
 | _=>s
def stk:List SF->Out->FF->AH->Prop
 | [],.exit _,_,_=>False
 | [],_,F,h=>∃vs,qK P F h rs vs/\Q (one vs) h
 | .next b :: k,.normal,F,h=>V P N b F h (stk k)
 | .next _ :: k,e,F,h=>stk k e F h
 | .blk id :: k,.exit i,F,h=>cond (Nat.beq i id) (stk k .normal F h) (stk k (.exit i) F h)
 | .blk _ :: k,e,F,h=>stk k e F h
 | .rnd g :: _,.normal,F,h=>g F h
 | .rnd _ :: k,e,F,h=>stk k e F h
def CF:Cfg->Prop
 | .code c k F h=>V P N c F h (stk P N rs Q k)
 | .ops o l k F h=>VD P N o l F h (λF h=>stk P N rs Q k .normal F h)
 | .chk o a l k F h=>AG P o F h a/\VD P N o l F h (λF h=>stk P N rs Q k .normal F h)
 | .out e k F h=>stk P N rs Q k e F h
 | .res l acc F h=>∃vs,qK P F h l vs/\Q (one (acc ++ vs)) h
 | .bad=>False
def yG (a b:Cfg):Value->Option Cfg
 | .bool true=>some a
 | .bool false=>some b
 | _=>none
def Ca (ops:Array Oper) (k:List SF) (F:FF) (h:AH):Option (List (Nat×List Nat))->Option Cfg
 | some l=>some (.ops ops l k F h)
 | none=>none
def Eu (k:List SF) (F:FF) (h:AH) (ops:Array Oper):Bool->Option Cfg
 | true=>Ca ops k F h (fa P ops)
 | false=>some (.ops ops ((List.range ops.size).map λj=>(j,[])) k F h)
def Cb (k:List SF) (F:FF) (h:AH):Code->Option Cfg
 | .seq a b=>some (.code a (.next b :: k) F h)
 | .block id b=>some (.code b (.blk id :: k) F h)
 | .scope b=>some (.code b k F h)
 | .skip=>some (.out .normal k F h)
 | .label _=>some (.out .normal k F h)
 | .exit id=>some (.out (.exit id) k F h)
 | .ret=>some (.out .ret k F h)
 | .region _ ops d=>Eu P k F h ops d
 | .cond x a b=>cond (dT x) (yG (.code a k F h) (.code b k F h) (evF F x)) none
 | _=>none
def DD (F:FF) (h:AH) (e:Out):List SF->Option Cfg
 | []=>match e with
  | .exit _=>none
  | _=>some (.res rs [] F h)
 | .next b :: k=>match e with
  | .normal=>some (.code b k F h)
  | e=>some (.out e k F h)
 | .blk id :: k=>match e with
  | .exit i=>some (cond (Nat.beq i id) (.out .normal k F h) (.out (.exit i) k F h))
  | e=>some (.out e k F h)
 | .rnd _ :: k=>match e with
  | .normal=>none
  | e=>some (.out e k F h)
def yH:Value->Bool
 | .int _ _=>false
 | _=>true
def Cy:Option Value->Bool
 | some (.map _)=>false
 | _=>true
def quiet (F:FF) (o:Oper):Bool:=
 match o.op with
 | .move _ | .pick _ _ _ | .nilCheck _ | .fieldAddr _ _ _ | .field _ _ _ | .extract _ _ | .makeFunc _ _ _ | .makeInterface _ _ | .build _ _=>true
 | .binOp _ _ x _ _=>yH (evF F x)
 | .unOp _ _ x=>yH (evF F x)
 | .call c=>match c.callee with
  | .builtin .len=>Cy (vC c F)
  | _=>false
 | _=>false
def inN:Option Tmp->Bool
 | some d=>Nat.blt d N
 | none=>true
def goF (ops:Array Oper) (F:FF) (o:Oper):Bool:=cond (gC ops F o) (bB o) false
def DE (ops:Array Oper) (a:List Nat) (l:List (Nat×List Nat)) (k:List SF) (F:FF) (h:AH) (d:Option Tmp):Option Value->Option Cfg
 | some v=>cond (inN N d) (some (.chk ops a l k (sq F d v) h)) none
 | none=>none
def opM (ops:Array Oper) (a:List Nat) (l:List (Nat×List Nat)) (k:List SF) (F:FF) (h:AH) (o:Oper):Option Cfg:=
 cond (gC ops F o)
  (cond (bB o)
   (match o.op with
   | .assign x=>cond (inN N o.dst) (some (.ops ops l k (sq F o.dst (evF F x)) h)) none
   | _=>cond (quiet F o) (DE N ops a l k F h o.dst (iI P o F h)) none) none)
  (cond (inN N o.dst) (some (.ops ops l k (sq F o.dst undef) h)) none)
def Cz (ops:Array Oper) (a:List Nat) (l:List (Nat×List Nat)) (k:List SF) (F:FF) (h:AH):Option Oper->Option Cfg
 | some o=>cond (looks P o.op && gC ops F o) none (some (.chk ops a l k F h))
 | none=>none
def CA (l:List ResultVar) (acc:List Value) (F:FF) (h:AH):Option Value->Option Cfg
 | some v=>some (.res l (acc ++ [v]) F h)
 | none=>none
def pE:Cfg->Option Cfg
 | .code c k F h=>Cb P k F h c
 | .ops _ [] k F h=>some (.out .normal k F h)
 | .ops ops ((j,a) :: l) k F h=>match ops[j]? with
  | some o=>opM P N ops a l k F h o
  | none=>none
 | .chk ops [] l k F h=>some (.ops ops l k F h)
 | .chk ops (i :: a) l k F h=>Cz P ops a l k F h ops[i]?
 | .out e k F h=>DD rs F h e k
 | .res (.tmp t :: l) acc F h=>CA l acc F h (F t)
 | _=>none
def um (c:Cfg) (ih:Cfg->Cfg):Option Cfg->Cfg
 | some c'=>ih c'
 | none=>c
def CC (n:Nat):Cfg->Cfg:=Nat.rec (motive:=λ_=>Cfg->Cfg) (λc=>c) (λ_ ih c=>um c ih (pE P N rs c)) n
def rn (c:Cfg):Cfg:=CC P N rs 1000 c
def goM (c:Cfg) (v:Value) (h':AH):Cfg:=
 match c with
 | .ops ops ((j,a) :: l) k F _=>match ops[j]? with
  | some o=>cond (inN N o.dst) (.chk ops a l k (sq F o.dst v) h') .bad
  | none=>.bad
 | .chk ops (_ :: a) l k F h=>.chk ops a l k F h
 | .res (_ :: l) acc F h=>.res l (acc ++ [v]) F h
 | _=>.bad
def eG:Cfg->Option (Array Oper×Oper×FF×AH)
 | .ops ops ((j,_) :: _) _ F h=>match ops[j]? with
  | some o=>cond (goF ops F o) (some (ops,o,F,h)) none
  | none=>none
 | _=>none
def hpM:Cfg->AH
 | .code _ _ _ h | .ops _ _ _ _ h | .chk _ _ _ _ _ h | .out _ _ _ h | .res _ _ _ h=>h
 | .bad=>⟨0,.nil⟩
def frM:Cfg->FF
 | .code _ _ F _ | .ops _ _ _ F _ | .chk _ _ _ _ F _ | .out _ _ F _ | .res _ _ F _=>F
 | .bad=>λ_=>none
def goV (c:Cfg) (v:Value):Cfg:=goM N c v (hpM c)
end
section
variable {P:Program}{N:Nat}{rs:List ResultVar}{Q:Value->AH->Prop}{ops:Array Oper}{F:FF}{h:AH}{l:List (Nat×List Nat)}{j:Nat}{a:List Nat}
theorem oK.put {fr:Fr}(hs:oK N F fr){d:Option Tmp}(hd:inN N d=true) (v:Value):oK N (sq F d v) (cT fr d v):=by
 cases d with
 | none=>exact hs
 | some d=>
  have hlt:d<fr.n:=by
   rw[hs.n,<-Nat.blt_eq]
   exact hd
  refine⟨by rw[mO];exact hs.n,?_⟩
  funext k
  show(fr.put d v).get k=cond (Nat.beq k d) (some v) (F k)
  by_cases e:k=d
  ·subst e
   rw[fX hlt,Nat.beq_refl];rfl
  ·have hb:Nat.beq k d=false:=by
    cases hb:Nat.beq k d with
    | false=>rfl
    | true=>exact absurd (aq hb) e
   rw[mN e,hb]
   exact congrFun hs.get k
theorem fv {o:Oper}(hg:goF ops F o=true):gC ops F o=true/\bB o=true:=by
 unfold goF at hg
 cases hw:gC ops F o with
 | false=>rw[hw]at hg;cases hg
 | true=>rw[hw]at hg;exact⟨rfl,hg⟩
theorem VD.step {K:FF->AH->Prop}{o:Oper}{v:Value}{h':AH}(ho:ops[j]? = some o) (hd:inN N o.dst=true) (hop:∀fr:Fr,fr.get=F->W1 P ops o fr h (λfr' h2=>fr' = cT fr o.dst v/\h2=h')) (ag:(gC ops F o && !(iP o.op))=true->AG P ops (sq F o.dst v) h' a)
  (hK:VD P N ops l (sq F o.dst v) h' K):VD P N ops ((j,a) :: l) F h K:=by
 intro fr hs
 obtain⟨n,fr',h2,ha,rfl,rfl⟩:=hop fr hs.get
 refine WD.op ho ⟨n,_,_,ha,?_,hK _ (hs.put hd v)⟩
 have hsee:=hs.put hd v
 unfold agn
 rw[kC,hs.get]
 cases hz:(gC ops F o && !(iP o.op)) with
 | false=>rfl
 | true=>
  have ag:=ag hz
  unfold AG at ag
  rw[<-hsee.get]at ag
  exact ag
theorem yI {o:Oper}{v:Value}(hk:aD P o = .val) (hg:goF ops F o=true) (hv:iI P o F h=some v):∀fr:Fr,fr.get=F->W1 P ops o fr h (λfr' h2=>fr' = cT fr o.dst v/\h2=h):=λfr hfr=>by
 obtain⟨hw,hc⟩:=fv hg
 refine W1.wanted (by rw[kC,hfr];exact hw) (W1.val rfl hc hk ?_ ⟨rfl,rfl⟩)
 show evV P o fr h=_
 rw[Dz,hfr];exact hv
theorem yJ {o:Oper}{ao:AO}{f:Nat->Value}(hk:aD P o = .lay) (hg:goF ops F o=true) (hv:AN P o F=some (ao,f)):∀fr:Fr,fr.get=F->W1 P ops o fr h (λfr' h2=>fr' = cT fr o.dst (f h.next)/\h2=h.new ao):=λfr hfr=>by
 obtain⟨hw,hc⟩:=fv hg
 refine W1.wanted (by rw[kC,hfr];exact hw) (W1.lay (b:=ao) (f:=f) rfl hc hk ?_ ⟨rfl,rfl⟩)
 show evA P o fr=_
 rw[DA,hfr];exact hv
theorem qL {o:Oper}{v:Value}{h':AH}(hk:aD P o = .loud) (hg:goF ops F o=true) (hv:wU P o F h=some (v,h')):∀fr:Fr,fr.get=F->W1 P ops o fr h (λfr' h2=>fr' = cT fr o.dst v/\h2=h'):=λfr hfr=>by
 obtain⟨hw,hc⟩:=fv hg
 refine W1.wanted (by rw[kC,hfr];exact hw) (W1.loud rfl hc hk ?_ ⟨rfl,rfl⟩)
 show evL P o fr h=_
 rw[BY,hfr];exact hv
theorem DF {o:Oper}(hw:gC ops F o=false):∀fr:Fr,fr.get=F->W1 P ops o fr h (λfr' h2=>fr' = cT fr o.dst undef/\h2=h):=λfr hfr=>
 W1.unwanted (by rw[kC,hfr];exact hw) ⟨rfl,rfl⟩
theorem AG.cons {i:Nat}(h1:fZ P ops F h i=true) (h2:AG P ops F h a):AG P ops F h (i :: a):=by
 unfold AG aO at *
 simp only[h1,cond_true]
 exact h2
theorem WD.of_list {ops:Array Oper}{Q:Fr->AH->Prop}:∀(m i:Nat){fr:Fr}{h:AH},i+m=ops.size->WD P ops ((List.range' i m).map λj=>(j,[])) fr h Q->WO P ops (ops.toList.drop i) fr h Q
 | 0,i,fr,h,hi,hw=>by
  obtain⟨n,fr',h',ha,q⟩:=hw
  have hd:ops.toList.drop i = []:=List.drop_eq_nil_of_le (by simp;omega)
  rw[hd]
  cases ha
  exact WO.nil q
 | m+1,i,fr,h,hi,hw=>by
  obtain⟨n,fr',h',ha,q⟩:=hw
  have hlt:i<ops.size:=by omega
  have hd:ops.toList.drop i=ops[i] :: ops.toList.drop (i+1):=by
   rw[List.drop_eq_getElem_cons (by simpa using hlt)]
   simp
  have hg:ops[i]? = some ops[i]:=Array.getElem?_eq_getElem hlt
  rw[hd]
  have ha':cG P (aK P (aH P n)) ops i [] (drawn P (aK P (aH P n)) ops ((List.range' (i+1) m).map λj=>(j,[]))) fr h=some (fr',h'):=ha
  unfold cG at ha'
  rw[hg]at ha'
  simp only at ha'
  cases h1:op1 P (aK P (aH P n)) ops ops[i] fr h with
  | none=>rw[h1]at ha';cases ha'
  | some fh=>
   obtain⟨fr1,hh1⟩:=fh
   rw[h1,vw]at ha'
   have ha2:drawn P (aK P (aH P n)) ops ((List.range' (i+1) m).map λj=>(j,[])) fr1 hh1=some (fr',h'):=ha'
   exact WO.cons ⟨n,fr1,hh1,h1,WD.of_list m (i+1) (by omega) ⟨n,fr',h',ha2,q⟩⟩
theorem yK {c:Code}{c':Cfg}{k:List SF}(hs:Cb P k F h c=some c') (K:CF P N rs Q c'):CF P N rs Q (.code c k F h):=by
 cases c with
 | seq a b=>
  cases hs
  intro fr hs
  refine W.seq ((K fr hs).mono λe fr' h'=>?_)
  rintro⟨F',hs',q⟩
  cases e with
  | normal=>exact q fr' hs'
  | exit i=>exact⟨F',hs',q⟩
  | ret=>exact⟨F',hs',q⟩
 | block i b=>
  cases hs
  intro fr hs
  refine W.block ((K fr hs).mono λe fr' h'=>?_)
  rintro⟨F',hs',q⟩
  cases e with
  | normal=>exact⟨F',hs',q⟩
  | exit j=>
   have q':cond (Nat.beq j i) (stk P N rs Q k .normal F' h') (stk P N rs Q k (.exit j) F' h'):=q
   by_cases e:j=i
   ·subst e
    rw[Nat.beq_refl]at q'
    simp only[mU,if_pos rfl]
    exact⟨F',hs',q'⟩
   ·have hb:Nat.beq j i=false:=by
     cases hb:Nat.beq j i with
     | false=>rfl
     | true=>exact absurd (aq hb) e
    rw[hb]at q'
    simp only[mU,if_neg e]
    exact⟨F',hs',q'⟩
  | ret=>exact⟨F',hs',q⟩
 | scope b=>cases hs;exact λfr hs=>W.scope (K fr hs)
 | skip=>cases hs;exact λfr hs=>W.skip ⟨F,hs,K⟩
 | label l=>cases hs;exact λfr hs=>W.label ⟨F,hs,K⟩
 | exit i=>cases hs;exact λfr hs=>W.exit ⟨F,hs,K⟩
 | ret=>cases hs;exact λfr hs=>W.ret ⟨F,hs,K⟩
 | region i ops dr=>
  cases dr with
  | true=>
   have hs':Ca ops k F h (fa P ops)=some c':=hs
   cases hp:fa P ops with
   | none=>rw[hp]at hs';cases hs'
   | some l=>
    rw[hp]at hs'
    cases hs'
    exact λfr hs=>W.regionD hp (K fr hs)
  | false=>
   cases hs
   intro fr hs
   refine W.region ?_
   have h1:WD P ops ((List.range ops.size).map λj=>(j,[])) fr h (λfr' h'=>∃F',oK N F' fr'/\stk P N rs Q k .normal F' h'):=K fr hs
   rw[List.range_eq_range']at h1
   have h2:=WD.of_list (P:=P) ops.size 0 (Nat.zero_add _) h1
   rwa [List.drop_zero]at h2
 | cond x a b=>
  intro fr hf
  have hs':cond (dT x) (yG (.code a k F h) (.code b k F h) (evF F x)) none=some c':=hs
  obtain⟨hx,hs'⟩:=ae hs'
  have he:ev fr x=evF F x:=by rw[Et,hf.get]
  unfold yG at hs'
  split at hs'
  ·rename_i ht
   cases hs'
   exact W.cond hx (he.trans ht) (λ_=>K fr hf) (λh=>by cases h)
  ·rename_i ht
   cases hs'
   exact W.cond hx (he.trans ht) (λh=>by cases h) (λ_=>K fr hf)
  ·cases hs'
 | _=>cases hs
theorem AP {e:Out}{c':Cfg}{k:List SF}(hs:DD rs F h e k=some c') (K:CF P N rs Q c'):CF P N rs Q (.out e k F h):=by
 cases k with
 | nil=>cases e <;>cases hs <;>exact K
 | cons s k=>
  cases s with
  | next b=>cases e <;>cases hs <;>exact K
  | rnd g=>cases e <;>cases hs <;>exact K
  | blk id=>
   cases e with
   | exit i=>
    injection hs with hs
    subst hs
    show cond (Nat.beq i id) (stk P N rs Q k .normal F h) (stk P N rs Q k (.exit i) F h)
    cases hb:Nat.beq i id <;>rw[hb]at K <;>exact K
   | normal=>cases hs;exact K
   | ret=>cases hs;exact K
theorem wV {o:Oper}(hq:quiet F o=true):aD P o = .val/\iP o.op=false:=by
 unfold quiet at hq
 unfold aD iP
 split at hq <;>first | (rename_i ho;rw[ho];exact⟨rfl,rfl⟩) | skip
 ·rename_i c ho
  rw[ho]
  refine⟨?_,rfl⟩
  simp only
  split at hq
  ·rename_i hc;rw[hc]
  ·cases hq
 ·cases hq
theorem CD {o:Oper}{c':Cfg}{k:List SF}(ho:ops[j]? = some o) (hs:opM P N ops a l k F h o=some c') (K:CF P N rs Q c'):CF P N rs Q (.ops ops ((j,a) :: l) k F h):=by
 unfold opM at hs
 cases hw:gC ops F o with
 | false=>
  rw[hw]at hs
  obtain⟨hd,hs⟩:=ae hs
  cases hs
  exact VD.step ho hd (DF hw) (λz=>by rw[hw]at z;cases z) K
 | true=>
  rw[hw]at hs
  obtain⟨hc,hs⟩:=ae hs
  have hg:goF ops F o=true:=by unfold goF;rw[hw];exact hc
  split at hs
  ·rename_i x hop
   obtain⟨hd,hs⟩:=ae hs
   cases hs
   refine VD.step ho hd (qL (by unfold aD;rw[hop]) hg (by unfold wU;rw[hop])) (λz=>?_) K
   rw[hop]at z;simp[iP]at z
  ·obtain⟨hq,hs⟩:=ae hs
   unfold DE at hs
   split at hs
   ·rename_i v hv
    obtain⟨hd,hs⟩:=ae hs
    cases hs
    exact VD.step ho hd (yI (wV hq).1 hg hv) (λ_=>K.1) K.2
   ·cases hs
theorem su {c c':Cfg}(hs:pE P N rs c=some c') (K:CF P N rs Q c'):CF P N rs Q c:=by
 cases c with
 | code c k F h=>exact yK hs K
 | ops ops l k F h=>
  cases l with
  | nil=>cases hs;exact λfr hs=>WD.nil ⟨F,hs,K⟩
  | cons p l=>
   obtain⟨j,a⟩:=p
   have hs':(match ops[j]? with | some o=>opM P N ops a l k F h o | none=>none)=some c':=hs
   split at hs'
   ·rename_i o ho
    exact CD ho hs' K
   ·cases hs'
 | chk ops a l k F h=>
  cases a with
  | nil=>cases hs;exact⟨rfl,K⟩
  | cons i a=>
   have hs':Cz P ops a l k F h ops[i]? = some c':=hs
   unfold Cz at hs'
   split at hs'
   ·rename_i o ho
    cases hz:(looks P o.op && gC ops F o) with
    | true=>rw[hz]at hs';cases hs'
    | false=>
     rw[hz]at hs'
     cases hs'
     refine⟨AG.cons ?_ K.1,K.2⟩
     unfold fZ
     rw[ho]
     simp only
     cases hl:looks P o.op with
     | false=>rfl
     | true=>rw[hl]at hz;simp only[Bool.true_and]at hz;rw[hz];rfl
   ·cases hs'
 | out e k F h=>exact AP hs K
 | res l acc F h=>
  cases l with
  | nil=>cases hs
  | cons r l=>
   cases r with
   | cell a t=>cases hs
   | tmp t=>
    have hs':CA l acc F h (F t)=some c':=hs
    unfold CA at hs'
    split at hs'
    ·rename_i v hv
     cases hs'
     obtain⟨vs,k1,k2⟩:=K
     exact⟨v :: vs,.tmp hv k1,by rw[List.append_assoc]at k2;exact k2⟩
    ·cases hs'
 | bad=>cases hs
theorem vF:∀(n:Nat) (c:Cfg),CF P N rs Q (CC P N rs n c)->CF P N rs Q c
 | 0,c,K=>K
 | n+1,c,K=>by
  have K':CF P N rs Q (um c (CC P N rs n) (pE P N rs c)):=K
  unfold um at K'
  split at K'
  ·rename_i c' hs
   exact su hs (vF n c' K')
  ·exact K'
theorem bl {c:Cfg}(K:CF P N rs Q (rn P N rs c)):CF P N rs Q c:=vF _ _ K
theorem pF {c:Cfg}{o:Oper}{v:Value}{h':AH}(hc:eG c=some (ops,o,F,h)) (hop:∀fr:Fr,fr.get=F->W1 P ops o fr h (λfr' h2=>fr' = cT fr o.dst v/\h2=h')) (K:CF P N rs Q (goM N c v h')):CF P N rs Q c:=by
 unfold eG at hc
 split at hc
 ·rename_i ops' j a l k F' h0
  split at hc
  ·rename_i o' ho
   obtain⟨hg,hc⟩:=ae hc
   injection hc with hc
   injection hc with e1 hc
   injection hc with e2 hc
   injection hc with e3 e4
   subst e1 e2 e3 e4
   have K':CF P N rs Q (match ops'[j]? with | some o=>cond (inN N o.dst) (.chk ops' a l k (sq F' o.dst v) h') .bad | none=>.bad):=K
   rw[ho]at K'
   simp only at K'
   cases hd:inN N o'.dst with
   | false=>rw[hd]at K';exact K'.elim
   | true=>
    rw[hd]at K'
    exact VD.step ho hd hop (λ_=>K'.1) K'.2
  ·cases hc
 ·cases hc
end
end
end Eva
end
section
open Go Go.RowKit
namespace Eva
def DG (ih:Value->Prop):Value->Prop
 | .bool _ | .int _ _ | .string _ | .pointer none | .map _ | .nilFunc | .nilIface=>True
 | .pointer (some a)=>a.spot=none
 | .slice none _ _=>True
 | .slice (some a) _ _=>a.spot=a.spot
 | .iface _ v=>ih v
 | .agg cs | .tuple cs=>∀v∈cs.toList,ih v
 | .func (.func _) f c=>(∀v∈f.toList,ih v)/\∀v∈c.toList,ih v
 | _=>False
def jL:Nat->Value->Prop
 | 0,_=>False
 | n+1,v=>DG (jL n) v
abbrev aZ (v:Value):Prop:=jL 6 v
theorem fz {ih:Value->Value->Bool}:∀l:List Value,(∀v∈l,ih v v=true)->oE ih l l=true
 | [],_=>rfl
 | x :: l,h=>by
  unfold oE
  rw[h x (by simp)]
  exact fz l λv hv=>h v (List.mem_cons_of_mem _ hv)
theorem lz (a:Addr):kr a a=true:=by
 unfold kr
 rw[Nat.beq_refl,Nat.beq_refl]
 cases a.spot with
 | none=>rfl
 | some i=>exact Nat.beq_refl i
theorem fA:∀(n:Nat){v:Value},jL n v->eqv n v v=true
 | 0,v,h=>h.elim
 | n+1,v,h=>by
  show lE (eqv n) v v=true
  cases v with
  | bool b=>simp[lE]
  | int k x=>simp[lE]
  | string s=>simp[lE]
  | pointer p=>
   cases p with
   | none=>rfl
   | some a=>exact lz a
  | slice a l c=>
   cases a with
   | none=>simp[lE,Nat.beq_refl]
   | some a=>simp[lE,Nat.beq_refl];exact lz a
  | map r=>cases r <;>simp[lE,Nat.beq_refl]
  | nilFunc=>rfl
  | nilIface=>rfl
  | iface t u=>simp only[lE,Nat.beq_refl,Bool.true_and];exact fA n h
  | agg cs=>exact fz _ λu hu=>fA n (h u hu)
  | tuple cs=>exact fz _ λu hu=>fA n (h u hu)
  | func g f c=>
   cases g with
   | func g=>
    simp only[lE,Nat.beq_refl,Bool.true_and]
    rw[fz _ λu hu=>fA n (h.1 u hu),fz _ λu hu=>fA n (h.2 u hu)];rfl
   | _=>exact h.elim
  | _=>exact h.elim
noncomputable section
def eqB:Value->Bool
 | .bool _ | .int _ _ | .string _ | .pointer none | .map _ | .nilFunc | .nilIface=>true
 | .pointer (some ⟨_,_,none⟩)=>true
 | .slice none _ _=>true
 | .slice (some _) _ _=>true
 | _=>false
theorem CE {v:Value}(h:eqB v=true):aZ v:=by
 unfold eqB at h
 split at h <;>first | exact trivial | exact rfl | cases h
def ldP (P:Program) (h:AH) (t:TypeId):Value->Option (AH×Nat×Nat×Option Nat)
 | .pointer (some ⟨b,o,none⟩)=>match ly P t with
  | some f=>some (h,b,o,f)
  | none=>none
 | _=>none
def ldO (P:Program) (F:FF) (h:AH):Op->Option (AH×Nat×Nat×Option Nat)
 | .load t x=>ldP P h t (evF F x)
 | _=>none
def ldM (P:Program):Cfg->Option (AH×Nat×Nat×Option Nat)
 | .chk ops (i :: _) _ _ F h=>match ops[i]? with
  | some o=>cond (goF ops F o) (ldO P F h o.op) none
  | none=>none
 | .res (.cell a t :: _) _ F h=>match F a with
  | some v=>ldP P h t v
  | none=>none
 | c=>match eG c with
  | some (_,o,F,h)=>ldO P F h o.op
  | none=>none
def yL (v:Value):Cfg->Option Value
 | .chk ops (i :: _) _ _ F _=>match ops[i]? with
  | some o=>match o.dst with
   | some d=>F d
   | none=>none
  | none=>none
 | _=>some v
def eqM (v:Value):Cfg->Bool
 | .chk _ _ _ _ _ _=>eqB v
 | _=>true
def stM (P:Program) (c:Cfg):Option (AH×Nat×Nat×List Value):=
 match eG c with
 | some (_,o,F,h)=>match o.op,o.dst with
  | .store t x v,none=>match P.info? t,evF F x with
   | some i,.pointer (some ⟨b,k,none⟩)=>cond (Nat.beq (evF F v).cells.toList.length i.size) (some (h,b,k,(evF F v).cells.toList)) none
   | _,_=>none
  | _,_=>none
 | none=>none
def luM (P:Program) (c:Cfg):Option (Option VH):=
 match eG c with
 | some (_,o,F,h)=>match aD P o with
  | .loud=>some (wU P o F h)
  | _=>none
 | none=>none
def vxM (P:Program) (c:Cfg):Option (Option Value):=
 match eG c with
 | some (_,o,F,h)=>match aD P o with
  | .val=>some (iI P o F h)
  | _=>none
 | none=>none
def AS:Option (Option Value)->Option (IntKind×Int)
 | some (some (.int k t))=>some (k,t)
 | _=>none
def itM (P:Program) (c:Cfg):Option Int:=
 match AS (vxM P c) with
 | some (_,t)=>some t
 | none=>none
def knM (P:Program) (c:Cfg):IntKind:=
 match AS (vxM P c) with
 | some (k,_)=>k
 | none=>.i64
def Cc:Op->Option (Bool×Operand×Operand)
 | .binOp .quo _ x y _=>some (false,x,y)
 | .binOp .rem _ x y _=>some (true,x,y)
 | _=>none
def quV (rem:Bool) (a b:Value):Option (IntKind×Int×Int):=
 match a,b with
 | .int k a,.int l b=>cond (k == l) (some (k,b,cond rem (Int.tmod a b) (k.wrap (Int.tdiv a b)))) none
 | _,_=>none
def quA (c:Cfg):Option (IntKind×Int×Int):=
 match eG c with
 | some (_,o,F,_)=>match Cc o.op with
  | some (r,x,y)=>quV r (evF F x) (evF F y)
  | none=>none
 | none=>none
def quM (c:Cfg):Option (Int×Int):=
 match quA c with
 | some (_,b,t)=>some (b,t)
 | none=>none
def quK (c:Cfg):IntKind:=
 match quA c with
 | some (k,_)=>k
 | none=>.i64
def DH (op:BinOp) (a b:Int):Option Bool:=
 match op with
 | .lss=>some (decide (a<b))
 | .leq=>some (decide (a<=b))
 | .gtr=>some (decide (b<a))
 | .geq=>some (decide (b<=a))
 | .eql=>some (a == b)
 | .neq=>some (a == b)
 | _=>none
def DI (op:BinOp) (x y:Value):Option Bool:=
 match x,y with
 | .int k a,.int l b=>cond (k == l) (DH op a b) none
 | _,_=>none
def yM:BinOp->Bool
 | .neq=>true
 | _=>false
def tsM (c:Cfg):Option Bool:=
 match eG c with
 | some (_,o,F,_)=>match o.op with
  | .binOp op _ x y _=>DI op (evF F x) (evF F y)
  | _=>none
 | none=>none
def ngM (c:Cfg):Bool:=
 match eG c with
 | some (_,o,_,_)=>match o.op with
  | .binOp op _ _ _ _=>yM op
  | _=>false
 | none=>false
def ixO (P:Program) (d:Option TypeDesc) (x:Value) (i:Option Nat):Option (Nat×Nat×Nat×Nat×Nat):=
 match d,x,i with
 | some (.slice e),.slice (some ⟨b,o,none⟩) n _,some k=>match P.info? e with
  | some i=>some (b,o,n,k,i.size)
  | none=>none
 | some (.array n e),.pointer (some ⟨b,o,none⟩),some k=>match P.info? e with
  | some i=>some (b,o,n,k,i.size)
  | none=>none
 | _,_,_=>none
def ixA (P:Program) (c:Cfg):Option (Nat×Nat×Nat×Nat×Nat):=
 match eG c with
 | some (_,o,F,_)=>match o.op with
  | .indexAddr t x ix=>ixO P (P.underlying t) (evF F x) (bE (evF F ix))
  | _=>none
 | none=>none
def ixM (P:Program) (c:Cfg):Option (Nat×Nat):=
 match ixA P c with
 | some (_,_,n,k,_)=>some (n,k)
 | none=>none
def ixV (P:Program) (c:Cfg):Value:=
 match ixA P c with
 | some (b,o,_,k,s)=>.pointer (some ⟨b,cond (Nat.beq s 1) (o+k) (o+k*s),none⟩)
 | none=>undef
def nwA (P:Program) (c:Cfg):Option (AH×Lay):=
 match eG c with
 | some (_,o,F,h)=>match aD P o with
  | .lay=>match AN P o F with
   | some b=>some (h,b)
   | none=>none
  | _=>none
 | none=>none
def nwM (P:Program) (c:Cfg):Option (AH×AO):=
 match nwA P c with
 | some (h,b,_)=>some (h,b)
 | none=>none
def nwV (P:Program) (c:Cfg):Value:=
 match nwA P c with
 | some (h,_,f)=>f h.next
 | none=>undef
def vG (e:TypeId):Option TypeInfo->Option (List Value)
 | some i=>match i.zero with
  | some z=>cond (Nat.blt i.bytes 10000 && eX z i.size) (some z.cells.toList) none
  | none=>none
 | none=>none
def mkM (P:Program) (c:Cfg):Option (AH×TypeId×List Value×Option Nat×Option Nat):=
 match eG c with
 | some (_,o,F,h)=>match o.op with
  | .makeSlice t l c=>match P.underlying t with
   | some (.slice e)=>match vG e (P.info? e) with
    | some zl=>some (h,e,zl,bE (evF F l),bE (evF F c))
    | none=>none
   | _=>none
  | _=>none
 | none=>none
def caM (P:Program) (c:Cfg):Option (AH×Option (FuncId×List Value)):=
 match eG c with
 | some (_,o,F,h)=>match o.op with
  | .call c=>match c.callee with
   | .value _=>some (h,vD P o F)
   | _=>none
  | _=>none
 | none=>none
def fiM:Cfg->Option (Value×AH)
 | .res [] acc _ h=>some (one acc,h)
 | _=>none
def gM:Cfg->Option ((FF->AH->Prop)×AH)
 | .out .normal (.rnd g :: _) _ h=>some (g,h)
 | _=>none
def lhM:Cfg->Option AH
 | .code (.loop _) _ _ h=>some h
 | _=>none
def lpM (c:Cfg) (g:FF->AH->Prop) (h:AH) (F:FF):Cfg:=
 match c with
 | .code (.loop b) k _ _=>.code b (.rnd g :: k) F h
 | _=>.bad
def jbM (c:Cfg) (g:FF->AH->Prop):Cfg:=
 match c with
 | .code b k F h=>.code b (.rnd g :: k) F h
 | _=>.bad
def jaM (c:Cfg) (h:AH) (F:FF):Cfg:=
 match c with
 | .code _ k _ _=>.out .normal k F h
 | _=>.bad
def yN (id:Nat):Cfg->Bool
 | .code (.block i _) _ _ _=>Nat.beq (2*i) id
 | .code (.cond (.tmp t) _ _) _ _ _=>Nat.beq (2*t+1) id
 | _=>false
def AT (P:Program) (N:Nat) (rs:List ResultVar) (id n:Nat):Cfg->Cfg:=Nat.rec (motive:=λ_=>Cfg->Cfg) (λc=>c) (λ_ ih c=>cond (yN id c) c (um c ih (pE P N rs c))) n
def rj (P:Program) (N:Nat) (rs:List ResultVar) (id:Nat) (c:Cfg):Cfg:=AT P N rs id 1000 c
def AU (g:FF->AH->Prop) (F:FF) (h:AH):Prop:=g F h
def bm (l:List Nat) (F:FF):List (Option Value):=l.map F
def ek (l:List Value):List (Option Value):=l.map some
def ovr:List Nat->List Value->FF->FF
 | s :: ss,v :: vs,G=>FF.put (ovr ss vs G) s v
 | _,_,G=>G
def jM (fix:List Nat) (F G:FF):FF:=λk=>cond (mem k fix) (F k) (G k)
section
variable {P:Program}{N:Nat}{rs:List ResultVar}{Q:Value->AH->Prop}{ops:Array Oper}{F:FF}{h:AH}{c:Cfg}
theorem CG {o:Oper}(hc:eG c=some (ops,o,F,h)):hpM c=h:=by
 unfold eG at hc
 split at hc
 ·split at hc
  ·obtain⟨_,hc⟩:=ae hc
   injection hc with hc
   injection hc with e1 hc
   injection hc with e2 hc
   injection hc with e3 e4
  ·cases hc
 ·cases hc
theorem kD {o:Oper}(hc:eG c=some (ops,o,F,h)):goF ops F o=true:=by
 unfold eG at hc
 split at hc
 ·split at hc
  ·obtain⟨hg,hc⟩:=ae hc
   injection hc with hc
   injection hc with e1 hc
   injection hc with e2 hc
   injection hc with e3 e4
   subst e1 e2 e3
   exact hg
  ·cases hc
 ·cases hc
theorem jb {o:Oper}{v:Value}(hc:eG c=some (ops,o,F,h)) (hk:aD P o = .val) (hv:iI P o F h=some v) (K:CF P N rs Q (goV N c v)):CF P N rs Q c:=by
 unfold goV at K
 rw[CG hc]at K
 exact pF hc (yI hk (kD hc) hv) K
theorem yO {t:TypeId}{x:Value}{b o:Nat}{f:Option Nat}{h':AH}(hv:ldP P h t x=some (h',b,o,f)):h' = h/\x = .pointer (some ⟨b,o,none⟩)/\ly P t=some f:=by
 unfold ldP at hv
 split at hv
 ·split at hv
  ·rename_i hf
   injection hv with hv
   injection hv with e1 hv
   injection hv with e2 hv
   injection hv with e3 e4
   subst e1 e2 e3 e4
   exact⟨rfl,rfl,hf⟩
  ·cases hv
 ·cases hv
theorem yP {op:Op}{b o:Nat}{f:Option Nat}{h':AH}(hv:ldO P F h op=some (h',b,o,f)):h' = h/\∃t x,op = .load t x/\evF F x = .pointer (some ⟨b,o,none⟩)/\ly P t=some f:=by
 unfold ldO at hv
 split at hv
 ·rename_i t x
  obtain⟨a1,a2,a3⟩:=yO hv
  exact⟨a1,t,x,rfl,a2,a3⟩
 ·cases hv
theorem vH {o:Oper}{t:TypeId}{x:Operand}{b k:Nat}{v:Value}(hop:o.op = .load t x) (hx:evF F x = .pointer (some ⟨b,k,none⟩)) (hl:ldV P t h b k=some v):aD P o = .val/\iI P o F h=some v:=by
 refine⟨by unfold aD;rw[hop],?_⟩
 unfold iI
 rw[hop]
 show gB P t (evF F x) h=some v
 rw[hx];exact hl
theorem vI {b o:Nat}{f:Option Nat}{v:Value}(hv:ldM P c=some (h,b,o,f)) (hl:∀t,ly P t=some f->ldV P t h b o=some v) (ho:yL v c=some v) (he:aZ v\/eqM v c=true) (K:CF P N rs Q (goV N c v)):CF P N rs Q c:=by
 unfold ldM at hv
 split at hv
 ·rename_i ops i a l k F h'
  split at hv
  ·rename_i op hop
   obtain⟨hg,hv⟩:=ae hv
   obtain⟨rfl,t,x,h1,h2,h3⟩:=yP hv
   have hev:=vH h1 h2 (hl t h3)
   have he':aZ v:=he.elim id CE
   have hold:(match ops[i]? with | some o=>(match o.dst with | some d=>F d | none=>none) | none=>none)=some v:=ho
   rw[hop]at hold
   simp only at hold
   refine⟨AG.cons ?_ K.1,K.2⟩
   unfold fZ
   rw[hop]
   simp only
   have hlk:looks P op.op=true:=by rw[h1];rfl
   rw[hlk,(fv hg).1,hev.2]
   simp only[cond_true]
   unfold vE
   split at hold
   ·rename_i d hd
    simp only[hd,hold]
    exact fA 6 he'
   ·cases hold
  ·cases hv
 ·rename_i a t l acc F h'
  split at hv
  ·rename_i x hx
   obtain⟨rfl,h2,h3⟩:=yO hv
   obtain⟨vs,k1,k2⟩:=K
   exact⟨v :: vs,.cell (by rw[hx,h2]) (hl t h3) k1,by rw[List.append_assoc]at k2;exact k2⟩
  ·cases hv
 ·split at hv
  ·rename_i ops op F h' hc
   obtain⟨rfl,t,x,h1,h2,h3⟩:=yP hv
   have hev:=vH h1 h2 (hl t h3)
   exact jb hc hev.1 hev.2 K
  ·cases hv
theorem ldS {b o:Nat}{v:Value}{R:Prop}(H:ldC h b o=some v/\R) (K:R->CF P N rs Q (goV N c v)) (hv:ldM P c=some (h,b,o,none):=by kernel_rfl) (ho:yL v c=some v:=by kernel_rfl) (he:eqM v c=true:=by kernel_rfl):CF P N rs Q c:=
 (vI hv (λt ht=>DB ht H.1) ho (.inr he) (K H.2))
theorem agE {b o:Nat}{v:Value}{R:Prop}(H:ldC h b o=some v/\aZ v/\R) (K:R->CF P N rs Q (goV N c v)) (hv:ldM P c=some (h,b,o,none):=by kernel_rfl) (ho:yL v c=some v:=by kernel_rfl):CF P N rs Q c:=
 (vI hv (λt ht=>DB ht H.1) ho (.inl H.2.1) (K H.2.2))
theorem ldA {b o n:Nat}{v:List Value}{R:Prop}(H:ldN h b o n=some v/\R) (K:R->CF P N rs Q (goV N c (.agg v.toArray))) (hv:ldM P c=some (h,b,o,some n):=by kernel_rfl) (ho:yL (.agg v.toArray) c=some (.agg v.toArray):=by kernel_rfl) (he:eqM (.agg v.toArray) c=true:=by kernel_rfl):CF P N rs Q c:=
 (vI hv (λt ht=>DC ht H.1) ho (.inr he) (K H.2))
theorem agA {b o n:Nat}{v:List Value}{w:Value}{R:Prop}(H:ldN h b o n=some v/\aZ w/\R) (K:R->CF P N rs Q (goV N c (.agg v.toArray))) (hw:w = .agg v.toArray:=by kernel_rfl) (hv:ldM P c=some (h,b,o,some n):=by kernel_rfl) (ho:yL (.agg v.toArray) c=some (.agg v.toArray):=by kernel_rfl):CF P N rs Q c:=
 (vI hv (λt ht=>DC ht H.1) ho (.inl (hw ▸ H.2.1)) (K H.2.2))
theorem stS {b o:Nat}{vs:List Value}{h2:AH}{R:Prop}(H:stC h b o vs=some h2/\R) (K:R->CF P N rs Q (goM N c undef h2)) (hv:stM P c=some (h,b,o,vs):=by kernel_rfl):CF P N rs Q c:=by
 have K:=K H.2
 have hs:=H.1
 unfold stM at hv
 split at hv
 ·rename_i ops op F h0 hc
  split at hv
  ·rename_i t x y hop hdst
   split at hv
   ·rename_i i b' k' hi hp
    obtain⟨hb,hv⟩:=ae hv
    injection hv with hv
    injection hv with e1 hv
    injection hv with e2 hv
    injection hv with e3 e4
    subst e1 e2 e3
    refine pF hc (qL (by unfold aD;rw[hop]) (kD hc) ?_) K
    unfold wU
    rw[hop]
    show ku h0 (P.info? t) (evF F x) (evF F y)=_
    rw[hi,hp]
    unfold ku
    simp only[hb,cond_true]
    unfold stC at hs
    rw[e4,hs]
   ·cases hv
  ·cases hv
 ·cases hv
theorem lu {X:Option VH}{v:Value}{h2:AH}{R:Prop}(H:X=some (v,h2)/\R) (K:R->CF P N rs Q (goM N c v h2)) (hv:luM P c=some X:=by kernel_rfl):CF P N rs Q c:=by
 have K:=K H.2
 unfold luM at hv
 split at hv
 ·rename_i ops op F h0 hc
  split at hv
  ·rename_i hk
   injection hv with hv
   exact pF hc (qL hk (kD hc) (hv.trans H.1)) K
  ·cases hv
 ·cases hv
theorem yQ {X:Option Value}(hv:vxM P c=some X):∃ops o F h,eG c=some (ops,o,F,h)/\aD P o = .val/\iI P o F h=X:=by
 unfold vxM at hv
 split at hv
 ·rename_i ops op F h0 hc
  split at hv
  ·rename_i hk
   injection hv with hv
   exact⟨_,_,_,_,hc,hk,hv⟩
  ·cases hv
 ·cases hv
theorem vx {X:Option Value}{v:Value}{R:Prop}(H:X=some v/\R) (K:R->CF P N rs Q (goV N c v)) (hv:vxM P c=some X:=by kernel_rfl):CF P N rs Q c:=
 let ⟨_,_,_,_,h1,h2,h3⟩:=yQ hv
 (jb h1 h2 (h3.trans H.1) (K H.2))
theorem AV {X:Option (Option Value)}{k:IntKind}{t:Int}(h:AS X=some (k,t)):X=some (some (.int k t)):=by
 unfold AS at h
 split at h
 ·injection h with h;injection h with h1 h2;subst h1 h2;rfl
 ·cases h
theorem wr {t r:Int}{R:Prop}(H:t=r/\R) (K:R->CF P N rs Q (goV N c (.int (knM P c) r))) (hv:itM P c=some t:=by kernel_rfl):CF P N rs Q c:=by
 have K:=K H.2
 unfold itM at hv
 split at hv
 ·rename_i k t' hi
  injection hv with hv
  obtain⟨_,_,_,_,h1,h2,h3⟩:=yQ (AV hi)
  have hk:knM P c=k:=by unfold knM;rw[hi]
  rw[hk,<-H.1,<-hv]at K
  exact jb h1 h2 h3 K
 ·cases hv
theorem AW {o:Oper}{t yt:TypeId}{x y:Operand}{k:IntKind}{a b:Int}(ho:o.op = .binOp .quo t x y yt) (hx:evF F x = .int k a) (hy:evF F y = .int k b) (hz:b≠0):mV P o F=some (.int k (k.wrap (a.tdiv b))):=by
 unfold mV
 have h1:(aO (λz=>pl (evF F z)) o.op.operands.toList)=true:=by
  rw[ho]
  show aO (λz=>pl (evF F z)) [x,y]=true
  unfold aO
  simp only[hx,hy]
  rfl
 rw[h1]
 simp only[cond_true]
 unfold execOp
 rw[ho]
 simp only[hx,hy]
 unfold binOp
 simp[Op.intDiv,hz]
 rfl
theorem AX {o:Oper}{t yt:TypeId}{x y:Operand}{k:IntKind}{a b:Int}(ho:o.op = .binOp .rem t x y yt) (hx:evF F x = .int k a) (hy:evF F y = .int k b) (hz:b≠0):mV P o F=some (.int k (a.tmod b)):=by
 unfold mV
 have h1:(aO (λz=>pl (evF F z)) o.op.operands.toList)=true:=by
  rw[ho]
  show aO (λz=>pl (evF F z)) [x,y]=true
  unfold aO
  simp only[hx,hy]
  rfl
 rw[h1]
 simp only[cond_true]
 unfold execOp
 rw[ho]
 simp only[hx,hy]
 unfold binOp
 simp[Op.intDiv,hz]
 rfl
theorem CH {k:IntKind}{b t:Int}(hv:quA c=some (k,b,t)) (hz:b≠0):∃ops o F h,eG c=some (ops,o,F,h)/\aD P o = .val/\iI P o F h=some (.int k t):=by
 unfold quA at hv
 split at hv
 ·rename_i ops o F h0 hc
  split at hv
  ·rename_i r x y hq
   unfold quV at hv
   split at hv
   ·rename_i k' a l b' hx hy
    obtain⟨hkl,hv2⟩:=ae hv
    clear hv
    have hkl:=eq_of_beq hkl
    subst hkl
    injection hv2 with hv
    injection hv with e1 hv
    injection hv with e2 e3
    subst e1 e2 e3
    refine⟨ops,o,F,h0,hc,?_⟩
    unfold Cc at hq
    split at hq
    ·rename_i t x' y' yt hop
     injection hq with hq
     injection hq with e1 hq
     injection hq with e2 e3
     subst e1 e2 e3
     refine⟨by unfold aD;rw[hop],?_⟩
     unfold iI
     rw[hop]
     show mW P .quo t o F (evF F x') (evF F y')=_
     rw[hx,hy]
     unfold mW
     simp only[beq_self_eq_true,cond_true]
     exact AW hop hx hy hz
    ·rename_i t x' y' yt hop
     injection hq with hq
     injection hq with e1 hq
     injection hq with e2 e3
     subst e1 e2 e3
     refine⟨by unfold aD;rw[hop],?_⟩
     unfold iI
     rw[hop]
     show mW P .rem t o F (evF F x') (evF F y')=_
     rw[hx,hy]
     unfold mW
     simp only[beq_self_eq_true,cond_true]
     exact AX hop hx hy hz
    ·cases hq
   ·cases hv
  ·cases hv
 ·cases hv
theorem qo {b t r:Int}{R:Prop}(H:b≠0/\t=r/\R) (K:R->CF P N rs Q (goV N c (.int (quK c) r))) (hv:quM c=some (b,t):=by kernel_rfl):CF P N rs Q c:=by
 have K:=K H.2.2
 unfold quM at hv
 split at hv
 ·rename_i k b' t' hi
  injection hv with hv
  injection hv with e1 e2
  subst e1 e2
  obtain⟨_,_,_,_,h1,h2,h3⟩:=CH (P:=P) hi H.1
  have hk:quK c=k:=by unfold quK;rw[hi]
  rw[hk,<-H.2.1]at K
  exact jb h1 h2 h3 K
 ·cases hv
theorem CJ {q:Bool}(hv:tsM c=some q):∃ops o F h,eG c=some (ops,o,F,h)/\aD P o = .val/\iI P o F h=some (.bool (xor (ngM c) q)):=by
 unfold tsM at hv
 split at hv
 ·rename_i ops o F h0 hc
  split at hv
  ·rename_i op t x y yt hop
   refine⟨ops,o,F,h0,hc,by unfold aD;rw[hop],?_⟩
   have hn:ngM c=yM op:=by unfold ngM;rw[hc];simp only[hop]
   unfold iI
   rw[hop,hn]
   show mW P op t o F (evF F x) (evF F y)=_
   unfold DI at hv
   split at hv
   ·rename_i k a l b hx hy
    obtain⟨hkl,hv⟩:=ae hv
    rw[hx,hy]
    unfold mW
    simp only[hkl,cond_true]
    unfold DH at hv
    cases op <;>simp only at hv <;>first | (cases hv;done) | (injection hv with hv;subst hv;simp[pg,yM,bne])
   ·cases hv
  ·cases hv
 ·cases hv
theorem ts {p:Prop} [Decidable p] {A B:Prop}(H:(p->A)/\(¬p->B)) (K1:A->CF P N rs Q (goV N c (.bool (Bool.not (ngM c))))) (K2:B->CF P N rs Q (goV N c (.bool (ngM c)))) (hv:tsM c=some (decide p):=by kernel_rfl):CF P N rs Q c:=by
 obtain⟨_,_,_,_,h1,h2,h3⟩:=CJ (P:=P) hv
 by_cases hp:p
 ·refine jb h1 h2 (h3.trans ?_) (K1 (H.1 hp))
  simp[hp]
 ·refine jb h1 h2 (h3.trans ?_) (K2 (H.2 hp))
  simp[hp]
theorem CK {b o n k s:Nat}(hv:ixA P c=some (b,o,n,k,s)) (hk:k<n):∃ops op F h,eG c=some (ops,op,F,h)/\aD P op = .val/\iI P op F h=some (.pointer (some ⟨b,o+k*s,none⟩)):=by
 unfold ixA at hv
 split at hv
 ·rename_i ops op F h0 hc
  split at hv
  ·rename_i t x ix hop
   refine⟨ops,op,F,h0,hc,by unfold aD;rw[hop],?_⟩
   unfold iI
   rw[hop]
   show di P (P.underlying t) (evF F x) (bE (evF F ix))=_
   have hi:∀(e:TypeId) (i:TypeInfo),P.info? e=some i->idx P e ⟨b,o,none⟩ n k=some (.pointer (some ⟨b,o+k*i.size,none⟩)):=by
    intro e i h1
    unfold idx
    simp only[h1]
    have:Nat.blt k n=true:=Nat.ble_eq_true_of_le hk
    rw[this]
    simp only[cond_true]
    unfold Addr.add
    split
    ·rename_i h0
     simp[h0]
    ·rfl
   unfold ixO at hv
   unfold di
   split at hv
   ·rename_i e b' o' n' K' k' hu hx hn
    split at hv
    ·rename_i i hi0
     injection hv with hv
     injection hv with e1 hv
     injection hv with e2 hv
     injection hv with e3 hv
     injection hv with e4 e5
     subst e1 e2 e3 e4 e5
     rw[hu,hx,hn]
     exact hi e i hi0
    ·cases hv
   ·rename_i n' e b' o' k' hu hx hn
    split at hv
    ·rename_i i hi0
     injection hv with hv
     injection hv with e1 hv
     injection hv with e2 hv
     injection hv with e3 hv
     injection hv with e4 e5
     subst e1 e2 e3 e4 e5
     rw[hu,hx,hn]
     exact hi e i hi0
    ·cases hv
   ·cases hv
  ·cases hv
 ·cases hv
theorem ix {n k:Nat}{R:Prop}(H:k<n/\R) (K:R->CF P N rs Q (goV N c (ixV P c))) (hv:ixM P c=some (n,k):=by kernel_rfl):CF P N rs Q c:=by
 have K:=K H.2
 unfold ixM at hv
 split at hv
 ·rename_i b o n' k' s hi
  injection hv with hv
  injection hv with e1 e2
  subst e1 e2
  obtain⟨_,_,_,_,h1,h2,h3⟩:=CK hi H.1
  have hV:ixV P c = .pointer (some ⟨b,o+k'*s,none⟩):=by
   unfold ixV
   rw[hi]
   simp only
   cases hs:Nat.beq s 1 with
   | false=>rfl
   | true=>rw[aq hs,Nat.mul_one];rfl
  rw[hV]at K
  exact jb h1 h2 h3 K
 ·cases hv
theorem nw {ao:AO}{R:AH->Prop}(H:∀h2,h2=AH.new h ao->R h2) (K:∀h2,h2=AH.new h ao->R h2->CF P N rs Q (goM N c (nwV P c) h2)) (hv:nwM P c=some (h,ao):=by kernel_rfl):CF P N rs Q c:=by
 have K:=K _ rfl (H _ rfl)
 unfold nwM at hv
 split at hv
 ·rename_i h' b f hi
  injection hv with hv
  injection hv with e1 e2
  subst e1 e2
  have hV:nwV P c=f h'.next:=by unfold nwV;rw[hi]
  rw[hV]at K
  unfold nwA at hi
  split at hi
  ·rename_i ops o F h0 hc
   split at hi
   ·rename_i hk
    split at hi
    ·rename_i b' hb
     injection hi with hi
     injection hi with e1 e2
     subst e1 e2
     exact pF hc (yJ hk (kD hc) hb) K
    ·cases hi
   ·cases hi
  ·cases hi
 ·cases hv
theorem mk2 {e n k:Nat}{zl:List Value}{R:AH->Prop}(H:n<=k/\k<1000000/\∀h2,h2=AH.new h (.cells (rep k zl) e false)->R h2) (K:∀h2,h2=AH.new h (.cells (rep k zl) e false)->R h2->CF P N rs Q (goM N c (.slice (some ⟨h.next,0,none⟩) n (cx k)) h2)) (hv:mkM P c=some (h,e,zl,some n,some k):=by kernel_rfl):CF P N rs Q c:=by
 obtain⟨hn,hc,H⟩:=H
 have K:=K _ rfl (H _ rfl)
 unfold mkM at hv
 split at hv
 ·rename_i ops o F h0 hat
  split at hv
  ·rename_i t x y hop
   split at hv
   ·rename_i e' hu
    split at hv
    ·rename_i zl' hz
     injection hv with hv
     injection hv with h1 hv
     injection hv with h2 hv
     injection hv with h3 hv
     injection hv with h4 h5
     subst h1 h2 h3
     refine pF hat (yJ (ao:=.cells (rep k zl') e' false) (f:=lF n (cx k)) (by unfold aD;rw[hop]) (kD hat) ?_) K
     unfold AN
     rw[hop]
     show ed P (P.underlying t) (bE (evF F x)) (bE (evF F y))=_
     rw[hu,h4,h5]
     show vk e' n k (P.info? e')=_
     unfold vG at hz
     unfold vk
     split at hz
     ·rename_i i hi
      rw[hi]
      simp only
      split at hz
      ·rename_i z hz0
       rw[hz0]
       simp only
       have hb1:Nat.ble n k=true:=Nat.ble_eq_true_of_le hn
       have hb2:Nat.blt k 1000000=true:=Nat.ble_eq_true_of_le hc
       obtain⟨hzz,hz⟩:=ae hz
       injection hz with hz
       simp only[Bool.and_eq_true]at hzz
       rw[hb1,hb2,hzz.1,hzz.2]
       simp only[Bool.and_self,cond_true,hz]
      ·cases hz
     ·cases hz
    ·cases hv
   ·cases hv
  ·cases hv
 ·cases hv
theorem mk {e k:Nat}{zl:List Value}{R:AH->Prop}(H:k<1000000/\∀h2,h2=AH.new h (.cells (rep k zl) e false)->R h2) (K:∀h2,h2=AH.new h (.cells (rep k zl) e false)->R h2->CF P N rs Q (goM N c (.slice (some ⟨h.next,0,none⟩) k (cx k)) h2)) (hv:mkM P c=some (h,e,zl,some k,some k):=by kernel_rfl):CF P N rs Q c:=
 mk2 ⟨Nat.le_refl _,H⟩ K hv
theorem ca {g:FuncId}{args:List Value}{R:Value->AH->Prop}(H:WC P g args h R) (K:∀v h2,R v h2->CF P N rs Q (goM N c v h2)) (hv:caM P c=some (h,some (g,args)):=by kernel_rfl):CF P N rs Q c:=by
 unfold caM at hv
 split at hv
 ·rename_i ops o F h0 hc
  split at hv
  ·rename_i cl hop
   split at hv
   ·rename_i f hcl
    injection hv with hv
    injection hv with e1 e2
    subst e1
    obtain⟨n,v,h',hr,hK⟩:=H
    refine pF hc (λfr hfr=>?_) (K v h' hK)
    obtain⟨hw,hco⟩:=fv (kD hc)
    refine W1.wanted (by rw[kC,hfr];exact hw) (W1.call (g:=g) (args:=args) rfl hco ?_ ?_ ?_ ⟨n,v,h',hr,rfl,rfl⟩)
    ·show aD P o = .loud
     unfold aD;simp only[hop,hcl]
    ·show evL P o fr h0=none
     rw[BY]
     unfold wU
     rw[hop]
     show uk P fr.get h0 cl=none
     unfold uk
     rw[hcl]
    ·show callee P o fr=_
     rw[yF,hfr];exact e2
   ·cases hv
  ·cases hv
 ·cases hv
theorem fc {g:FuncId}{args:List Value}{R:Value->AH->Prop}(H:eZ P g=true/\WC P g args h R) (K:∀v h2,R v h2->CF P N rs Q (goM N c v h2)) (hv:caM P c=some (h,cond (eZ P g) (some (g,args)) none):=by kernel_rfl):CF P N rs Q c:=
 ca H.2 K (by rw[hv,H.1];rfl)
theorem fin {v:Value}(H:Q v h) (hv:fiM c=some (v,h):=by kernel_rfl):CF P N rs Q c:=by
 unfold fiM at hv
 split at hv
 ·rename_i acc F h'
  injection hv with hv
  injection hv with e1 e2
  subst e1 e2
  exact⟨[],.nil,by rw[List.append_nil];exact H⟩
 ·cases hv
theorem rE {g:FF->AH->Prop}(E:AU g (frM c) h) (hv:gM c=some (g,h):=by kernel_rfl):CF P N rs Q c:=by
 unfold gM at hv
 split at hv
 ·injection hv with hv
  injection hv with e1 e2
  subst e1 e2
  exact E
 ·cases hv
theorem mX:∀(args:List Value) (i:Nat) (t:Tr Value) (k:Nat),(frame i args t).get k=if i<=k then(match aF args (k - i) with | some v=>some v | none=>t.get k) else t.get k
 | [],i,t,k=>by
  show t.get k=_
  split <;>rfl
 | v :: l,i,t,k=>by
  show(frame (i+1) l (t.set i (some v))).get k=_
  rw[mX l (i+1) (t.set i (some v)) k]
  by_cases hik:i+1<=k
  ·rw[if_pos hik,if_pos (by omega)]
   obtain⟨m,hm⟩:∃m,k - i=m+1:=⟨k - i - 1,by omega⟩
   have h2:k - (i+1)=m:=by omega
   rw[hm,h2,Tr.get_set_ne _ _ (by omega)]
   rfl
  ·rw[if_neg hik]
   by_cases e:i=k
   ·subst e
    rw[Tr.get_set,if_pos (Nat.le_refl _),Nat.sub_self];rfl
   ·rw[Tr.get_set_ne _ _ e,if_neg (by omega)]
theorem un:∀(ss:List Nat) (vs:List Value){F:FF},bm ss F=ek vs->ovr ss vs F=F
 | [],vs,F,_=>by cases vs <;>rfl
 | s :: ss,[],F,hl=>by cases hl
 | s :: ss,v :: vs,F,hl=>by
  injection hl with h1 h2
  have ih:=un ss vs (F:=F) h2
  show FF.put (ovr ss vs F) s v=F
  rw[ih]
  funext k
  unfold FF.put
  by_cases e:k=s
  ·subst e;rw[Nat.beq_refl,h1];rfl
  ·have hb:Nat.beq k s=false:=by
    cases hb:Nat.beq k s with
    | false=>rfl
    | true=>exact absurd (aq hb) e
   rw[hb];rfl
theorem sC {fix:List Nat}{F G:FF}(hg:bm fix G=bm fix F):jM fix F G=G:=by
 funext k
 unfold jM
 cases hm:mem k fix with
 | false=>rfl
 | true=>
  have hm:=iv.1 hm
  have:∀l:List Nat,bm l G=bm l F->k∈l->G k=F k:=by
   intro l
   induction l with
   | nil=>intro _ h;cases h
   | cons s l ih=>
    intro h1 h2
    injection h1 with a b
    cases h2 with
    | head=>exact a
    | tail _ h2=>exact ih b h2
  exact(this fix hg hm).symm
theorem lpB {ι:Type}(fix mod:List Nat) (vals:ι->List Value) (J:Nat->ι->AH->Prop){m0:Nat}{x0:ι}(h0:J m0 x0 h)
  (K:∀m x h G g,(∀F h x,(∃m',m' < m/\J m' x h)->bm mod F=ek (vals x)->bm fix F=bm fix (frM c)->AU g F h)->J m x h->CF P N rs Q (lpM c g h (ovr mod (vals x) (jM fix (frM c) G))))
  (hh:lhM c=some h) (hF:bm mod (frM c)=ek (vals x0)):CF P N rs Q c:=by
 unfold lhM at hh
 split at hh
 ·rename_i b k F h'
  injection hh with hh
  subst hh
  intro fr hs
  refine W.loop (λm fr h=>∃F' x,oK N F' fr/\J m x h/\bm mod F' = ek (vals x)/\bm fix F' = bm fix F) m0 ⟨F,x0,hs,h0,hF,rfl⟩ ?_
  rintro m fr h ⟨F',x,hs,hJ,h1,h2⟩
  have k1:=K m x h F' (λF'' h''=>∃m' x',m' < m/\J m' x' h''/\bm mod F'' = ek (vals x')/\bm fix F'' = bm fix F) (λF'' h'' x' ⟨m',a1,a2⟩ a3 a4=>⟨m',x',a1,a2,a3,a4⟩) hJ
  have e:ovr mod (vals x) (jM fix F F')=F':=by rw[sC h2];exact un _ _ h1
  have k2:CF P N rs Q (.code b (.rnd _ :: k) (ovr mod (vals x) (jM fix F F')) h):=k1
  rw[e]at k2
  refine(k2 fr hs).mono λe fr' h'=>?_
  rintro⟨F'',hs',q⟩
  cases e with
  | normal=>
   obtain⟨m',x',a1,a2,a3,a4⟩:=q
   exact⟨m',a1,F'',x',hs',a2,a3,a4⟩
  | exit i=>exact⟨F'',hs',q⟩
  | ret=>exact⟨F'',hs',q⟩
 ·cases hh
theorem vJ {id:Nat}:∀(n:Nat) (c:Cfg),CF P N rs Q (AT P N rs id n c)->CF P N rs Q c
 | 0,c,K=>K
 | n+1,c,K=>by
  have K':CF P N rs Q (cond (yN id c) c (um c (AT P N rs id n) (pE P N rs c))):=K
  cases hs:yN id c with
  | true=>rw[hs]at K';exact K'
  | false=>
   rw[hs]at K'
   have K2:CF P N rs Q (um c (AT P N rs id n) (pE P N rs c)):=K'
   unfold um at K2
   split at K2
   ·rename_i c' hs
    exact su hs (vJ n c' K2)
   ·exact K2
theorem jnB {ι:Type}(id:Nat) (fix mod:List Nat) (vals:ι->List Value) (R:ι->AH->Prop)
  (K2:∀x h G,R x h->CF P N rs Q (jaM (rj P N rs id c) h (ovr mod (vals x) (jM fix (frM (rj P N rs id c)) G))))
  (K1:∀g,(∀F h x,R x h->bm mod F=ek (vals x)->bm fix F=bm fix (frM (rj P N rs id c))->AU g F h)->CF P N rs Q (jbM (rj P N rs id c) g)):CF P N rs Q c:=by
 refine vJ (id:=id) 1000 c ?_
 show CF P N rs Q (rj P N rs id c)
 generalize rj P N rs id c=c at K1 K2
 have k1:=K1 (λF' h'=>∃x,R x h'/\bm mod F' = ek (vals x)/\bm fix F' = bm fix (frM c)) (λF' h' x a1 a2 a3=>⟨x,a1,a2,a3⟩)
 cases c with
 | code b k F h=>
  intro fr hs
  refine(k1 fr hs).mono λe fr' h'=>?_
  rintro⟨F',hs',q⟩
  cases e with
  | normal=>
   obtain⟨x,a1,a2,a3⟩:=q
   refine⟨F',hs',?_⟩
   have k2:=K2 x h' F' a1
   have e:ovr mod (vals x) (jM fix F F')=F':=by rw[sC (F:=F) a3];exact un _ _ a2
   have k3:CF P N rs Q (.out .normal k (ovr mod (vals x) (jM fix F F')) h'):=k2
   rw[e]at k3
   exact k3
  | exit i=>exact⟨F',hs',q⟩
  | ret=>exact⟨F',hs',q⟩
 | _=>exact k1.elim
def Skp (p:Prop):Prop:=p
abbrev EG (c0:Cfg) (fix mod:List Nat) (g:FF->AH->Prop) (F:FF) (h:AH) (vs:List Value):Prop:=bm mod F=ek vs->bm fix F=bm fix (frM c0)->AU g F h
abbrev ovK (c0:Cfg) (fix mod:List Nat) (vs:List Value) (G:FF):FF:=ovr mod vs (jM fix (frM c0) G)
abbrev AQ (p:Option Addr) (R:Nat->Nat->Prop):Prop:=∃b o,p=some ⟨b,o,none⟩/\R b o
abbrev NK (x:Int) (R:Nat->Prop):Prop:=∃k:Nat,x=(k:Int)/\R k
abbrev WR (t:Int) (R:Int->Prop):Prop:=∃x,IntKind.i64.wrap t=x/\R x
abbrev LI (h:AH) (b o:Nat) (R:Int->Prop):Prop:=∃x,ldC h b o=some (.int .i64 x)/\R x
abbrev LZ (h:AH) (b o:Nat) (R:Option Addr->Nat->Nat->Prop):Prop:=∃A n K,ldC h b o=some (.slice A n K)/\R A n K
abbrev LP (h:AH) (b o:Nat) (R:Option Addr->Prop):Prop:=∃p,ldC h b o=some (.pointer p)/\R p
abbrev ST (h:AH) (b o:Nat) (vs:List Value) (R:AH->Prop):Prop:=∃h2,stC h b o vs=some h2/\R h2
abbrev NW (h:AH) (ao:AO) (R:AH->Prop):Prop:=∀h2,h2=AH.new h ao->R h2
abbrev TS (p:Prop) (A B:Prop):Prop:=(p->A)/\(¬p->B)
abbrev BS (b:Bool) (A B:Prop):Prop:=(b=true->A)/\(b=false->B)
abbrev RE (m:Nat) (R:Nat->Prop):Prop:=∃m',m' < m/\R m'
theorem skp {p R G:Prop}(H:Skp p/\R) (K:R->G):G:=K H.2
theorem exE {α:Sort _}{p:α->Prop}{G:Prop}(H:∃x,p x) (K:∀x,p x->G):G:=let ⟨x,h⟩:=H;K x h
theorem Ev {x:Int}{k:Nat}{R G:Prop}(H:x=(k:Int)/\R) (K:x=(k:Int)->R->G):G:=K H.1 H.2
theorem eqE {α:Type}{x y:α}{R G:Prop}(H:x=y/\R) (K:x=y->R->G):G:=K H.1 H.2
theorem bsp {b:Bool}{A B G:Prop}(H:(b=true->A)/\(b=false->B)) (K1:b=true->A->G) (K2:b=false->B->G):G:=by
 cases b
 ·exact K2 rfl (H.2 rfl)
 ·exact K1 rfl (H.1 rfl)
theorem nsp {α:Type}{x:Option α}{A B G:Prop}(H:(x=none->A)/\(x≠none->B)) (K1:x=none->A->G) (K2:True->B->G):G:=by
 cases x
 ·exact K1 rfl (H.1 rfl)
 ·exact K2 trivial (H.2 (by simp))
theorem isp {e:Option (Nat×Value)}{A:Prop}{B:Nat->Value->Prop}{G:Prop}(H:(e=none->A)/\(∀t v,e=some (t,v)->B t v)) (K1:e=none->A->G) (K2:∀t v,e=some (t,v)->B t v->G):G:=by
 rcases e with _ | ⟨t,v⟩
 ·exact K1 rfl (H.1 rfl)
 ·exact K2 t v rfl (H.2 t v rfl)
abbrev LJ0 (fix mod:List Nat) (vals:List Value):Type:=Nat->AH->Prop
theorem lp0 {fix mod:List Nat}{vals:List Value}{J:LJ0 fix mod vals}{m0:Nat}{R:Nat->AH->Prop}{T:Prop}(E:T) (H:J m0 h/\∀m h,J m h->R m h) (K:∀m h G g,((∀{F h},(∃m',m' < m/\J m' h)->EG c fix mod g F h (vals))/\T)->R m h->CF P N rs Q (lpM c g h (ovK c fix mod (vals) G))) (hh:lhM c=some h:=by kernel_rfl) (hF:bm mod (frM c)=ek (vals):=by kernel_rfl):CF P N rs Q c:=
 lpB (ι:=Unit) fix mod (λx=>vals) (λm x h=>J m h) (x0:=()) H.1 (λm x h G g e hJ=>K m h G g ⟨fun {F h}=>e F h (),E⟩ (H.2 m h hJ)) hh hF
abbrev LR0 (id:Nat) (fix mod:List Nat) (vals:List Value):Type:=AH->Prop
theorem jn0 {id:Nat}{fix mod:List Nat}{vals:List Value}{J:LR0 id fix mod vals}{R:AH->Prop}{T B:Prop}(E:T) (H:(∀h,J h->R h)/\B) (K2:∀h G,T->R h->CF P N rs Q (jaM (rj P N rs id c) h (ovK (rj P N rs id c) fix mod (vals) G))) (K1:∀g,((∀{F h},J h->EG (rj P N rs id c) fix mod g F h (vals))/\T)->B->CF P N rs Q (jbM (rj P N rs id c) g)):CF P N rs Q c:=
 jnB (ι:=Unit) id fix mod (λx=>vals) (λx h=>J h) (λx h G hJ=>K2 h G E (H.1 h hJ)) (λg e=>K1 g ⟨fun {F h}=>e F h (),E⟩ H.2)
abbrev LJ1 {A0:Type}(fix mod:List Nat) (vals:A0->List Value):Type:=Nat->A0->AH->Prop
theorem lp1 {A0:Type}{fix mod:List Nat}{vals:A0->List Value}{J:LJ1 fix mod vals}{m0:Nat}{a0:A0}{R:Nat->A0->AH->Prop}{T:Prop}(E:T) (H:J m0 a0 h/\∀m x0 h,J m x0 h->R m x0 h) (K:∀m x0 h G g,((∀{F h x0},(∃m',m' < m/\J m' x0 h)->EG c fix mod g F h (vals x0))/\T)->R m x0 h->CF P N rs Q (lpM c g h (ovK c fix mod (vals x0) G))) (hh:lhM c=some h:=by kernel_rfl) (hF:bm mod (frM c)=ek (vals a0):=by kernel_rfl):CF P N rs Q c:=
 lpB (ι:=A0) fix mod (λx=>vals x) (λm x h=>J m x h) (x0:=a0) H.1 (λm x h G g e hJ=>K m x h G g ⟨fun {F h x0}=>e F h x0,E⟩ (H.2 m x h hJ)) hh hF
abbrev LR1 {A0:Type}(id:Nat) (fix mod:List Nat) (vals:A0->List Value):Type:=A0->AH->Prop
theorem jn1 {A0:Type}{id:Nat}{fix mod:List Nat}{vals:A0->List Value}{J:LR1 id fix mod vals}{R:A0->AH->Prop}{T B:Prop}(E:T) (H:(∀x0 h,J x0 h->R x0 h)/\B) (K2:∀x0 h G,T->R x0 h->CF P N rs Q (jaM (rj P N rs id c) h (ovK (rj P N rs id c) fix mod (vals x0) G))) (K1:∀g,((∀{F h x0},J x0 h->EG (rj P N rs id c) fix mod g F h (vals x0))/\T)->B->CF P N rs Q (jbM (rj P N rs id c) g)):CF P N rs Q c:=
 jnB (ι:=A0) id fix mod (λx=>vals x) (λx h=>J x h) (λx h G hJ=>K2 x h G E (H.1 x h hJ)) (λg e=>K1 g ⟨fun {F h x0}=>e F h x0,E⟩ H.2)
abbrev LJ2 {A0 A1:Type}(fix mod:List Nat) (vals:A0->A1->List Value):Type:=Nat->A0->A1->AH->Prop
theorem lp2 {A0 A1:Type}{fix mod:List Nat}{vals:A0->A1->List Value}{J:LJ2 fix mod vals}{m0:Nat}{a0:A0}{a1:A1}{R:Nat->A0->A1->AH->Prop}{T:Prop}(E:T) (H:J m0 a0 a1 h/\∀m x0 x1 h,J m x0 x1 h->R m x0 x1 h) (K:∀m x0 x1 h G g,((∀{F h x0 x1},(∃m',m' < m/\J m' x0 x1 h)->EG c fix mod g F h (vals x0 x1))/\T)->R m x0 x1 h->CF P N rs Q (lpM c g h (ovK c fix mod (vals x0 x1) G))) (hh:lhM c=some h:=by kernel_rfl) (hF:bm mod (frM c)=ek (vals a0 a1):=by kernel_rfl):CF P N rs Q c:=
 lpB (ι:=A0×A1) fix mod (λx=>vals x.1 x.2) (λm x h=>J m x.1 x.2 h) (x0:=(a0,a1)) H.1 (λm x h G g e hJ=>K m x.1 x.2 h G g ⟨fun {F h x0 x1}=>e F h (x0,x1),E⟩ (H.2 m x.1 x.2 h hJ)) hh hF
abbrev LR2 {A0 A1:Type}(id:Nat) (fix mod:List Nat) (vals:A0->A1->List Value):Type:=A0->A1->AH->Prop
theorem jn2 {A0 A1:Type}{id:Nat}{fix mod:List Nat}{vals:A0->A1->List Value}{J:LR2 id fix mod vals}{R:A0->A1->AH->Prop}{T B:Prop}(E:T) (H:(∀x0 x1 h,J x0 x1 h->R x0 x1 h)/\B) (K2:∀x0 x1 h G,T->R x0 x1 h->CF P N rs Q (jaM (rj P N rs id c) h (ovK (rj P N rs id c) fix mod (vals x0 x1) G))) (K1:∀g,((∀{F h x0 x1},J x0 x1 h->EG (rj P N rs id c) fix mod g F h (vals x0 x1))/\T)->B->CF P N rs Q (jbM (rj P N rs id c) g)):CF P N rs Q c:=
 jnB (ι:=A0×A1) id fix mod (λx=>vals x.1 x.2) (λx h=>J x.1 x.2 h) (λx h G hJ=>K2 x.1 x.2 h G E (H.1 x.1 x.2 h hJ)) (λg e=>K1 g ⟨fun {F h x0 x1}=>e F h (x0,x1),E⟩ H.2)
abbrev LJ3 {A0 A1 A2:Type}(fix mod:List Nat) (vals:A0->A1->A2->List Value):Type:=Nat->A0->A1->A2->AH->Prop
theorem lp3 {A0 A1 A2:Type}{fix mod:List Nat}{vals:A0->A1->A2->List Value}{J:LJ3 fix mod vals}{m0:Nat}{a0:A0}{a1:A1}{a2:A2}{R:Nat->A0->A1->A2->AH->Prop}{T:Prop}(E:T) (H:J m0 a0 a1 a2 h/\∀m x0 x1 x2 h,J m x0 x1 x2 h->R m x0 x1 x2 h) (K:∀m x0 x1 x2 h G g,((∀{F h x0 x1 x2},(∃m',m' < m/\J m' x0 x1 x2 h)->EG c fix mod g F h (vals x0 x1 x2))/\T)->R m x0 x1 x2 h->CF P N rs Q (lpM c g h (ovK c fix mod (vals x0 x1 x2) G))) (hh:lhM c=some h:=by kernel_rfl) (hF:bm mod (frM c)=ek (vals a0 a1 a2):=by kernel_rfl):CF P N rs Q c:=
 lpB (ι:=A0×A1×A2) fix mod (λx=>vals x.1 x.2.1 x.2.2) (λm x h=>J m x.1 x.2.1 x.2.2 h) (x0:=(a0,a1,a2)) H.1 (λm x h G g e hJ=>K m x.1 x.2.1 x.2.2 h G g ⟨fun {F h x0 x1 x2}=>e F h (x0,x1,x2),E⟩ (H.2 m x.1 x.2.1 x.2.2 h hJ)) hh hF
abbrev LJ4 {A0 A1 A2 A3:Type}(fix mod:List Nat) (vals:A0->A1->A2->A3->List Value):Type:=Nat->A0->A1->A2->A3->AH->Prop
theorem lp4 {A0 A1 A2 A3:Type}{fix mod:List Nat}{vals:A0->A1->A2->A3->List Value}{J:LJ4 fix mod vals}{m0:Nat}{a0:A0}{a1:A1}{a2:A2}{a3:A3}{R:Nat->A0->A1->A2->A3->AH->Prop}{T:Prop}(E:T) (H:J m0 a0 a1 a2 a3 h/\∀m x0 x1 x2 x3 h,J m x0 x1 x2 x3 h->R m x0 x1 x2 x3 h) (K:∀m x0 x1 x2 x3 h G g,((∀{F h x0 x1 x2 x3},(∃m',m' < m/\J m' x0 x1 x2 x3 h)->EG c fix mod g F h (vals x0 x1 x2 x3))/\T)->R m x0 x1 x2 x3 h->CF P N rs Q (lpM c g h (ovK c fix mod (vals x0 x1 x2 x3) G))) (hh:lhM c=some h:=by kernel_rfl) (hF:bm mod (frM c)=ek (vals a0 a1 a2 a3):=by kernel_rfl):CF P N rs Q c:=
 lpB (ι:=A0×A1×A2×A3) fix mod (λx=>vals x.1 x.2.1 x.2.2.1 x.2.2.2) (λm x h=>J m x.1 x.2.1 x.2.2.1 x.2.2.2 h) (x0:=(a0,a1,a2,a3)) H.1 (λm x h G g e hJ=>K m x.1 x.2.1 x.2.2.1 x.2.2.2 h G g ⟨fun {F h x0 x1 x2 x3}=>e F h (x0,x1,x2,x3),E⟩ (H.2 m x.1 x.2.1 x.2.2.1 x.2.2.2 h hJ)) hh hF
abbrev LJ5 {A0 A1 A2 A3 A4:Type}(fix mod:List Nat) (vals:A0->A1->A2->A3->A4->List Value):Type:=Nat->A0->A1->A2->A3->A4->AH->Prop
theorem lp5 {A0 A1 A2 A3 A4:Type}{fix mod:List Nat}{vals:A0->A1->A2->A3->A4->List Value}{J:LJ5 fix mod vals}{m0:Nat}{a0:A0}{a1:A1}{a2:A2}{a3:A3}{a4:A4}{R:Nat->A0->A1->A2->A3->A4->AH->Prop}{T:Prop}(E:T) (H:J m0 a0 a1 a2 a3 a4 h/\∀m x0 x1 x2 x3 x4 h,J m x0 x1 x2 x3 x4 h->R m x0 x1 x2 x3 x4 h) (K:∀m x0 x1 x2 x3 x4 h G g,((∀{F h x0 x1 x2 x3 x4},(∃m',m' < m/\J m' x0 x1 x2 x3 x4 h)->EG c fix mod g F h (vals x0 x1 x2 x3 x4))/\T)->R m x0 x1 x2 x3 x4 h->CF P N rs Q (lpM c g h (ovK c fix mod (vals x0 x1 x2 x3 x4) G))) (hh:lhM c=some h:=by kernel_rfl) (hF:bm mod (frM c)=ek (vals a0 a1 a2 a3 a4):=by kernel_rfl):CF P N rs Q c:=
 lpB (ι:=A0×A1×A2×A3×A4) fix mod (λx=>vals x.1 x.2.1 x.2.2.1 x.2.2.2.1 x.2.2.2.2) (λm x h=>J m x.1 x.2.1 x.2.2.1 x.2.2.2.1 x.2.2.2.2 h) (x0:=(a0,a1,a2,a3,a4)) H.1 (λm x h G g e hJ=>K m x.1 x.2.1 x.2.2.1 x.2.2.2.1 x.2.2.2.2 h G g ⟨fun {F h x0 x1 x2 x3 x4}=>e F h (x0,x1,x2,x3,x4),E⟩ (H.2 m x.1 x.2.1 x.2.2.1 x.2.2.2.1 x.2.2.2.2 h hJ)) hh hF
abbrev LJ7 {A0 A1 A2 A3 A4 A5 A6:Type}(fix mod:List Nat) (vals:A0->A1->A2->A3->A4->A5->A6->List Value):Type:=Nat->A0->A1->A2->A3->A4->A5->A6->AH->Prop
theorem lp7 {A0 A1 A2 A3 A4 A5 A6:Type}{fix mod:List Nat}{vals:A0->A1->A2->A3->A4->A5->A6->List Value}{J:LJ7 fix mod vals}{m0:Nat}{a0:A0}{a1:A1}{a2:A2}{a3:A3}{a4:A4}{a5:A5}{a6:A6}{R:Nat->A0->A1->A2->A3->A4->A5->A6->AH->Prop}{T:Prop}(E:T) (H:J m0 a0 a1 a2 a3 a4 a5 a6 h/\∀m x0 x1 x2 x3 x4 x5 x6 h,J m x0 x1 x2 x3 x4 x5 x6 h->R m x0 x1 x2 x3 x4 x5 x6 h) (K:∀m x0 x1 x2 x3 x4 x5 x6 h G g,((∀{F h x0 x1 x2 x3 x4 x5 x6},(∃m',m' < m/\J m' x0 x1 x2 x3 x4 x5 x6 h)->EG c fix mod g F h (vals x0 x1 x2 x3 x4 x5 x6))/\T)->R m x0 x1 x2 x3 x4 x5 x6 h->CF P N rs Q (lpM c g h (ovK c fix mod (vals x0 x1 x2 x3 x4 x5 x6) G))) (hh:lhM c=some h:=by kernel_rfl) (hF:bm mod (frM c)=ek (vals a0 a1 a2 a3 a4 a5 a6):=by kernel_rfl):CF P N rs Q c:=
 lpB (ι:=A0×A1×A2×A3×A4×A5×A6) fix mod (λx=>vals x.1 x.2.1 x.2.2.1 x.2.2.2.1 x.2.2.2.2.1 x.2.2.2.2.2.1 x.2.2.2.2.2.2) (λm x h=>J m x.1 x.2.1 x.2.2.1 x.2.2.2.1 x.2.2.2.2.1 x.2.2.2.2.2.1 x.2.2.2.2.2.2 h) (x0:=(a0,a1,a2,a3,a4,a5,a6)) H.1 (λm x h G g e hJ=>K m x.1 x.2.1 x.2.2.1 x.2.2.2.1 x.2.2.2.2.1 x.2.2.2.2.2.1 x.2.2.2.2.2.2 h G g ⟨fun {F h x0 x1 x2 x3 x4 x5 x6}=>e F h (x0,x1,x2,x3,x4,x5,x6),E⟩ (H.2 m x.1 x.2.1 x.2.2.1 x.2.2.2.1 x.2.2.2.2.1 x.2.2.2.2.2.1 x.2.2.2.2.2.2 h hJ)) hh hF
theorem wk (fn:Func) (N:Nat) (rs:List ResultVar){g:FuncId}{args:List Value}{C:Prop}(H:C) (hf:P.funcs[g]? = some fn) (K:C->CF P N rs Q (.code (BZ fn) [] (aF args) h):=by
  clear H;intro H
  have E:=True.intro
  repeat' first
   | with_reducible exact bl (fin H)
   | with_reducible exact False.elim H
   | with_reducible exact bl (rE (E.1 H (by kernel_rfl) (by kernel_rfl)))
   | with_reducible exact bl (rE (E.2.1 H (by kernel_rfl) (by kernel_rfl)))
   | with_reducible exact bl (rE (E.2.2.1 H (by kernel_rfl) (by kernel_rfl)))
   | with_reducible exact bl (rE (E.2.2.2.1 H (by kernel_rfl) (by kernel_rfl)))
   | with_reducible exact bl (rE (E.2.2.2.2.1 H (by kernel_rfl) (by kernel_rfl)))
   | with_reducible exact bl (rE (E.2.2.2.2.2.1 H (by kernel_rfl) (by kernel_rfl)))
   | with_reducible exact bl (rE (E.2.2.2.2.2.2.1 H (by kernel_rfl) (by kernel_rfl)))
   | (with_reducible refine exE H ?_;clear H;intro _ H)
   | (with_reducible refine bl (agE H ?_);clear H;intro H)
   | (with_reducible refine bl (agA H ?_);clear H;intro H)
   | (with_reducible refine bl (ldS H ?_);clear H;intro H)
   | (with_reducible refine bl (ldA H ?_);clear H;intro H)
   | (with_reducible refine bl (stS H ?_);clear H;intro H)
   | (with_reducible refine skp H ?_;clear H;intro H)
   | (with_reducible refine Ev H ?_;clear H;intro e H;cases e)
   | (with_reducible refine bl (wr H ?_);clear H;intro H)
   | (with_reducible refine bl (qo H ?_);clear H;intro H)
   | (with_reducible refine bl (lu H ?_);clear H;intro H)
   | (with_reducible refine bl (vx H ?_);clear H;intro H)
   | (with_reducible refine bl (mk H ?_);clear H;intro _ _ H)
   | (with_reducible refine bl (mk2 H ?_);clear H;intro _ _ H)
   | (with_reducible refine bl (nw H ?_);clear H;intro _ _ H)
   | (with_reducible refine bl (ca H ?_);clear H;intro _ _ H)
   | (with_reducible refine bl (fc H ?_);clear H;intro _ _ H)
   | (with_reducible refine bl (ix H ?_);clear H;intro H)
   | (with_reducible refine bsp H ?_ ?_ <;>(clear H;intro e H;cases e))
   | (with_reducible refine nsp H ?_ ?_ <;>(clear H;intro e H;cases e))
   | (with_reducible refine isp H ?_ ?_;(clear H;intro e H;cases e);rotate_left;(clear H;intro _ _ e H;cases e);rotate_left)
   | (with_reducible refine bl (ts H ?_ ?_) <;>(clear H;intro H))
   | (with_reducible refine eqE H ?_;clear H;intro e H;cases e)
   | (with_reducible refine bl (lp0 E H ?_);clear E H;intro _ _ _ _ E H)
   | (with_reducible refine bl (lp1 E H ?_);clear E H;intro _ _ _ _ _ E H)
   | (with_reducible refine bl (lp2 E H ?_);clear E H;intro _ _ _ _ _ _ E H)
   | (with_reducible refine bl (lp3 E H ?_);clear E H;intro _ _ _ _ _ _ _ E H)
   | (with_reducible refine bl (lp4 E H ?_);clear E H;intro _ _ _ _ _ _ _ _ E H)
   | (with_reducible refine bl (lp5 E H ?_);clear E H;intro _ _ _ _ _ _ _ _ _ E H)
   | (with_reducible refine bl (lp7 E H ?_);clear E H;intro _ _ _ _ _ _ _ _ _ _ _ E H)
   | (with_reducible refine jn0 E H ?_ ?_;(clear E H;intro _ _ E H);rotate_left;(clear E H;intro _ E H);rotate_left)
   | (with_reducible refine jn1 E H ?_ ?_;(clear E H;intro _ _ _ E H);rotate_left;(clear E H;intro _ E H);rotate_left)
   | (with_reducible refine jn2 E H ?_ ?_;(clear E H;intro _ _ _ _ E H);rotate_left;(clear E H;intro _ E H);rotate_left))
  (ho:Eva.orc g args h=none:=by kernel_rfl) (hb:fn.body=some (BZ fn):=by kernel_rfl) (hn:Nat.ble args.length fn.ntmps=true:=by kernel_rfl) (hN:fn.ntmps=N:=by kernel_rfl) (hrs:fn.results.toList=rs:=by kernel_rfl):WC P g args h Q:=by
 refine WC.enter ho hf hb (Nat.le_of_ble_eq_true hn) ((K H ⟨fn.ntmps,frame 0 args .nil⟩ ⟨hN,?_⟩).mono λe fr' h'=>?_)
 ·funext k
  show(frame 0 args .nil).get k=_
  rw[mX,if_pos (Nat.zero_le _),Nat.sub_zero,Tr.get_nil]
  cases aF args k <;>rfl
 ·rintro⟨F',hs',q⟩
  cases e with
  | exit i=>exact q.elim
  | normal=>
   obtain⟨vs,h1,h2⟩:=q
   exact⟨vs,by rw[hrs];exact h1.ok hs',h2⟩
  | ret=>
   obtain⟨vs,h1,h2⟩:=q
   exact⟨vs,by rw[hrs];exact h1.ok hs',h2⟩
end
end
end Eva
end
section
open Go Go.RowKit
namespace Eva
abbrev CL (g:FuncId) (args:List Value) (h:AH) (R:Value->AH->Prop):Prop:=WC Tryz.prog g args h R
abbrev CU (g:FuncId) (args:List Value) (h:AH) (R:AH->Prop):Prop:=CL g args h λv h2=>v = .tuple #[]/\R h2
abbrev CB (g:FuncId) (args:List Value) (h:AH) (R:Bool->AH->Prop):Prop:=CL g args h λv h2=>∃b,v = .bool b/\R b h2
abbrev CI (g:FuncId) (args:List Value) (h:AH) (R:Int->AH->Prop):Prop:=CL g args h λv h2=>∃x,v = .int .i64 x/\R x h2
abbrev CP (g:FuncId) (args:List Value) (h:AH) (R:Option Addr->AH->Prop):Prop:=CL g args h λv h2=>∃p,v = .pointer p/\R p h2
abbrev CS (g:FuncId) (args:List Value) (h:AH) (R:Option Addr->Nat->Nat->AH->Prop):Prop:=CL g args h λv h2=>∃A n K,v = .slice A n K/\R A n K h2
end Eva
end
end Go.Proofs.YtaomlhopkfmheaaGreatDoor
