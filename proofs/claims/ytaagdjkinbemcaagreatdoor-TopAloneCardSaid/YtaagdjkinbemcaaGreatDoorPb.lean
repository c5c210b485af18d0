/-
Lemmas for TopAlone. No condition.
-/
import Derived.Test.YtaagdjkinbemcaaGreatDoorPa
import Derived.Scope
import Derived.Deep.LoopGhost
namespace Go.Proofs.YtaagdjkinbemcaaGreatDoor
open _root_.Go.IntKind renaming i64->ν
open _root_.Go.Value renaming int->η,pointer->ξ,slice->ψ
open _root_.Option renaming none->ω,some->Y
set_option linter.unusedVariables false
set_option linter.unusedSimpArgs false
set_option linter.unusedSectionVars false
set_option linter.unnecessarySimpa false
section
open Go Go.RowKit
namespace Eva
section
variable {P:Program}{σ:aH}{w:World}
def De (P:Program) (σ:aH) (h:AH) (w:World) (s:Sem Value) (v:Value) (h':AH):Prop:=
 ∃v' w' σ',s.run P w = .ok v' w'/\St P σ h w σ' h' w'/\VR σ' v v'
theorem sD {h:AH}(hr:HR P σ h w){size n:Nat}{x x':Value}(hx:VR σ x x'){l:List Value}(hl:fM h size n x=Y l) :
  ∃l':List Value,(∀W:World,W.heap=w.heap->(Builtin.firstCells size n x').run P W = .ok l'.toArray W)/\br σ l l':=by
 unfold fM at hl
 split at hl
 .rename_i a len K;cases h0:Nat.beq (n*size) 0 with
  | true=>
   rw[h0]at hl;cases hl;have e0:=aq h0;cases hx with
   | sl hn hK hq=>exact⟨[],λW _=>by simp[Builtin.firstCells,e0,pQ],br.nil σ⟩
   | far=>exact⟨[],λW _=>by simp[Builtin.firstCells,e0];rfl,br.nil σ⟩
  | false=>
   rw[h0]at hl;cases hx with
   | sl hn hK hq=>
    rcases pV hr hn hl with⟨c',e',f',hb',hle,hv⟩ | ⟨h0',_⟩
    .refine⟨_,λW hW=>?_,hv⟩;have e2:=pv (P:=P) (w:=W) (by rw[hW];exact hb') hle;simpa only[Builtin.firstCells]using e2
    .rw[h0']at h0;cases h0
   | far=>simp[jW,cond_false]at hl
 .cases hl;cases hx;exact⟨[],λW _=>by simp[Builtin.firstCells],br.nil σ⟩
 .rename_i s;cases hl;cases hx;refine⟨(s.data.toList.take n).map (λb=>.int .u8 b.toNat),λW _=>?_,br.of_map _ _ _ λb _=>.int _ _⟩;simp only[Builtin.firstCells,Sem.run_pure]
  congr 1
  apply Array.ext';simp[ByteArray.data_extract,Array.toList_extract,List.extract_eq_take_drop]
 .cases hl
theorem sE {x x':Value}{n:Nat}(hx:VR σ x x') (h:C0 x=Y n):(Builtin.lenOf x').run P w = .ok n w:=by
 unfold C0 at h
 split at h
 .cases h;cases hx <;>simp[Builtin.lenOf]
 .cases h;cases hx;simp[Builtin.lenOf]
 .cases h
theorem sF (N:Nat):∀(r c M:Nat),c<=M->N+(N+768) / 4<=M->Builtin.growBy N r c<=M
 | 0,c,M,h,_=>h
 | r+1,c,M,h,hM=>by
  simp only[Builtin.growBy]
  split
  .exact h
  .refine sF N r _ M ?_ hM;omega
theorem Fs (N c:Nat) (h:c<N):Builtin.nextslicecap N c<=2*N+768:=by
 unfold Builtin.nextslicecap
 split
 .omega
 .split
  .omega
  .exact sF N 4 c _ U U
theorem vS (n:Nat):(askRoom n).run P w = .ok () w:=by
 unfold askRoom;split <;>rfl
theorem yi {h h':AH}(hr:HR P σ h w){e:TypeId}{i:TypeInfo}(hi:P.info? e=Y i){s':Value}{sl K n:Nat}{base:Option Addr}(hs:VR σ (.slice base sl K) s')
  {new new':List Value}(hnew:br σ new new'){v:Value}(hk:AV h e i base sl K n new=Y (v,h')) :
  ∃base' cap,s' = .slice base' sl cap/\gz i=true/\(sl+n)*i.bytes<70000000000000/\sl+n<70000000000000/\i.bytes<1000000/\i.size≠0/\
   ((sl+n<=cap/\∃σ' w',(∀a,base' = Y a->(storeCells (a.add (sl*i.size)) new').run P w = .ok () w')/\(base' = ω->w' = w)/\St P σ h w σ' h' w'/\VR σ' v (.slice base' (sl+n) cap))\/
    (cap<sl+n/\∃old':List Value,(∀W:World,W.heap=w.heap->(Builtin.firstCells i.size sl s').run P W = .ok old'.toArray W)/\
     ∀(nc:Nat) (q:Array Value) (w':World),sl+n<=nc->q.size=(nc - (sl+n))*i.size->Bi w (.cells (old'.toArray ++ new'.toArray ++ q) e) w'->
      ∃σ',St P σ h w σ' h' w'/\VR σ' v (ψ (Y ⟨w.heap.size,0,ω⟩) (sl+n) nc))):=by
 unfold AV at hk;obtain⟨h1,h2⟩:=af hk;obtain⟨h1,c7⟩:=ak h1;obtain⟨h1,c6⟩:=ak h1;obtain⟨h1,c5⟩:=ak h1;obtain⟨h1,c4⟩:=ak h1;obtain⟨h1,c3⟩:=ak h1;obtain⟨c1,c2⟩:=ak h1;have c2:=dH c2;have c3:=dH c3;have c5:=aq c5;have c6:=dH c6;have hsz:i.size≠0:=λe0=>by rw[e0]at c4;simp[Nat.beq_refl]at c4
 have hlen':new'.length=n*i.size:=by rw[<-hnew.1];exact c5
 have fresh:∀(olds olds':List Value),br σ olds olds'->olds.length=sl*i.size->v=oV (sl+n) (cl (sl+n)) h.next->
   ∀(nc:Nat) (q:Array Value) (w':World),sl+n<=nc->q.size=(nc - (sl+n))*i.size->Bi w (.cells (olds'.toArray ++ new'.toArray ++ q) e) w'->
    ∃σ',St P σ h w σ' (h.new (.cells (olds ++ new) e false)) w'/\VR σ' v (ψ (Y ⟨w.heap.size,0,ω⟩) (sl+n) nc):=by
  intro olds olds' hold hol hv nc q w' hge hq hl;subst hv;have hsize:(olds'.toArray ++ new'.toArray ++ q).size=nc*i.size:=by
   have ho':olds'.length=sl*i.size:=by rw[<-hold.1];exact hol
   simp only[Array.size_append,List.size_toArray,ho',hlen',hq];rw[<-Nat.add_mul,<-Nat.add_mul];congr 1;omega
  refine⟨_,St.laid hr (E:=nc) hl (λσ' hle hE=>.cells (λj u hu=>?_) (λ_=>.inl rfl) (λi' hi'=>?_)),lD (aH.put_same _ _ _ _) (CR.cl hge) (λ_=>by rw[aH.put_e];exact Nat.le_refl _)⟩
  .obtain⟨u',q1,q2⟩:=(hold.append hnew).get hu;refine⟨u',?_,q2.mono hle⟩;have hj:j<(olds' ++ new').length:=(List.getElem?_eq_some_iff.1 q1).1;rw[Array.getElem?_append_left (by simpa using hj)];simpa using q1
  .rw[hi]at hi';cases hi';rw[hE,hsize];exact Nat.le_refl _
 cases hfit:Nat.ble (sl+n) (K / 2) with
 | true=>
  rw[hfit]at h2;have hle:=gc hfit;simp only[cond_true]at h2;unfold ly at h2;cases hs with
  | sl0=>
   simp only at h2;obtain⟨q1,q2⟩:=af h2;cases q2;obtain⟨q1,q3⟩:=ak q1;obtain⟨q1,q2⟩:=ak q1;have q2:=aq q2;subst q2;exact⟨ω,0,rfl,c7,c2,c3,c6,hsz,.inl ⟨U,σ,w,(λa ha=>by cases ha),λ_=>rfl,St.refl hr,.sl0⟩⟩
  | @sl m b o _ _ cap hm hK hq=>
   simp only at h2;have hcap:=hK.le;cases h0:Nat.beq n 0 with
   | true=>
    rw[h0]at h2;cases h2;have:=aq h0;subst this;have hn0:new' = []:=List.eq_nil_of_length_eq_zero (by rw[hlen'];simp);subst hn0;exact⟨Y ⟨b,o,ω⟩,cap,rfl,c7,c2,c3,c6,hsz,.inl ⟨U,σ,w,λa ha=>rfl,λh=>rfl,St.refl hr,.sl hm hK hq⟩⟩
   | false=>
    rw[h0]at h2;simp only[cond_false]at h2
    split at h2
    .rename_i h1' hst;cases h2;rw[aZ]at hst;obtain⟨r1,r2⟩:=cG hr hm hnew hst;exact⟨Y ⟨b,o,ω⟩,cap,rfl,c7,c2,c3,c6,hsz,.inl ⟨U,σ,_,(λa ha=>by cases ha;rw[aZ];exact r1),(λh=>by cases h),r2,.sl hm hK hq⟩⟩
    .cases h2
  | far=>simp at h2
 | false=>
  rw[hfit]at h2;have hlt:K / 2<sl+n:=by
   rcases Nat.lt_or_ge (K / 2) (sl+n) with a | a
   .exact a
   .rw[show Nat.ble (sl+n) (K / 2)=true from Nat.ble_eq_true_of_le a]at hfit;cases hfit
  simp only[cond_false]at h2;unfold fZ at h2;cases hs with
  | sl0=>
   simp only at h2;obtain⟨q1,q2⟩:=af h2;cases q2;refine⟨ω,0,rfl,c7,c2,c3,c6,hsz,.inr ⟨by simpa using hlt,[],λW _=>by simp[Builtin.firstCells],?_⟩⟩;have:=fresh [] [] (br.nil σ) (by simp) (by simp);simpa using this
  | @sl m b o _ _ cap hm hK hq=>
   simp only at h2
   split at h2
   .rename_i c e0 f hsp hc;obtain⟨c',f',hb,hp,hf,hg,hroom⟩:=i9 hr hm hc
    split at h2
    .rename_i old hold;have hcut:=hp.cut hold;have hfirst:∃old':List Value,(∀W:World,W.heap=w.heap->(Builtin.firstCells i.size sl (ψ (Y ⟨b,o,ω⟩) sl cap)).run P W = .ok old'.toArray W)/\br σ old old'/\old.length=sl*i.size/\(o=0->sl≠0->old' = c'.toList.take (sl*i.size)/\sl*i.size<=c'.size):=by
      rcases hcut with⟨x1,x2,x3⟩ | ⟨x1,x2⟩
      .refine⟨_,λW hW=>?_,x1,x2,λho _=>⟨by subst ho;simp,by subst ho;simpa using x3⟩⟩;simp only[Builtin.firstCells];exact pv (w:=W) (by rw[hW];exact hb) (by simpa using x3)
      .refine⟨[],λW hW=>by simp[Builtin.firstCells,x1,pQ],x2 ▸ br.nil σ,by rw[x1,x2];rfl,λ_ hsl=>?_⟩;exfalso;rcases Nat.mul_eq_zero.1 x1 with y | y
       .exact hsl y
       .exact hsz y
     obtain⟨old',f1,f2,f3,f4⟩:=hfirst;cases hx:Nat.beq (K % 2) 0 with
     | true=>
      rw[hx]at h2;cases h2;have hcap:cap=K / 2:=hK.1 (aq hx);exact⟨Y ⟨b,o,ω⟩,cap,rfl,c7,c2,c3,c6,hsz,.inr ⟨U,old',f1,fresh old old' f2 f3 rfl⟩⟩
     | false=>
      rw[hx]at h2;simp only[cond_false]at h2;obtain⟨g1,g2⟩:=af h2;obtain⟨g1,g3⟩:=ak g1;obtain⟨g4,g5⟩:=ak g1;have g4:=aq g4;have g3:=aq g3;have g5:f=false:=by cases f <;>simp_all
      subst g3;subst g5;have g4:o=0:=g4;subst g4;cases g2;have hodd:K % 2=1:=by
       rcases Nat.mod_two_eq_zero_or_one K with y | y
       .rw[y]at hx;cases hx
       .exact y
      refine⟨Y ⟨b,0,ω⟩,cap,rfl,c7,c2,c3,c6,hsz,?_⟩;rcases Nat.lt_or_ge cap (sl+n) with hc | hc
      ·
       refine .inr ⟨hc,old',f1,λnc q w' hge hqs hl=>?_⟩;obtain⟨σ',r2,r3⟩:=fresh old old' f2 f3 rfl nc q w' hge hqs hl;refine⟨σ',?_,r3⟩;have hmn:m≠h.next:=λy=>by have:=(hr.lt m b hm).1;omega
       have gn:((h.del m).new (.cells (old ++ new) e0 false)).get m=none:=by
        rw[AH.get_new_ne (h.del m) _ (show(h.del m).next≠m from Ne.symm hmn)];exact AH.get_del h m
       have gelse:∀k,k≠m->((h.del m).new (.cells (old ++ new) e0 false)).get k=(h.new (.cells (old ++ new) e0 false)).get k:=λk y=>by
        by_cases z:k=h.next
        .subst z;rw[AH.get_new];exact AH.get_new (h.del m) _
        .rw[AH.get_new_ne (h.del m) _ (show(h.del m).next≠k from Ne.symm z),AH.get_new_ne h _ (Ne.symm z)];exact AH.get_del_ne h (Ne.symm y)
       have up:∀k o,((h.del m).new (.cells (old ++ new) e0 false)).get k=Y o->(h.new (.cells (old ++ new) e0 false)).get k=Y o:=λk o y=>by
        by_cases z:k=m
        .subst z;rw[gn]at y;cases y
        .rw[gelse k z]at y;exact y
       refine⟨r2.ext,⟨r2.hr.lt,λk b' o x y=>r2.hr.obj k b' o x (up k o y),λk j b' o p x1 x2 y1 y2=>r2.hr.inj k j b' o p x1 x2 (up k o y1) (up j p y2),λk hk=>?_,r2.hr.inv.step (λ_ _ _=>rfl) (λk b o x y=>.inl ⟨k,x,up k o y⟩)⟩,r2.os,r2.tape,r2.output,r2.size,r2.next,r2.new,λk hk y=>?_,r2.frame,λk b' l e x y=>?_⟩
       .by_cases z:k=m
        .subst z;exact gn
        .rw[gelse k z];exact r2.hr.none k hk
       .have:k≠m:=λz=>by subst z;rw[hm]at y;cases y
        rw[gelse k this];exact r2.keep k hk y
       .have:k≠m:=λz=>by subst z;rw[hg]at y;cases y
        obtain⟨p1,p2⟩:=r2.ro k b' l e x y;exact⟨by rw[gelse k this];exact p1,p2⟩
      ·
       have hcap:=hq hodd rfl;have hrm:=hroom i hi;have hbig:(sl+n)*i.size<=c'.size:=Nat.le_trans (Nat.mul_le_mul_right _ (Nat.le_trans hc hcap)) hrm;have hfit':sl*i.size+new'.length<=c'.size:=by rw[hlen',<-Nat.add_mul];exact hbig
       have hold2:old' = c'.toList.take (sl*i.size):=by
        rcases Nat.eq_zero_or_pos sl with y | y
        .have:old' = []:=List.eq_nil_of_length_eq_zero (by rw[<-f2.1,f3,y];simp);rw[this,y];simp
        .exact(f4 rfl U).1
       have hwr:=sC (P:=P) hb (hf rfl) hfit' (GL hnew c1);have hst:St P σ h w (σ.put h.next b (σ.e b)) ((h.del m).new (.cells (old ++ new) e0 false)) (w.setCells b (sl*i.size) new'):=by
        refine St.regrow hr hm hg (λ_ _ y=>by cases y) (gd b new' _ w) (jc b new' _ w c' hb) (λσ' hle hE=>.cells (λj u hu=>?_) (λ_=>by rw[eu];exact hf rfl) (λi' hi'=>by rw[eu,hE];exact hroom i' hi'));obtain⟨u',y1,y2⟩:=(f2.append hnew).get hu;refine⟨u',?_,y2.mono hle⟩;have:(ib c' (sl*i.size) new').toList=old' ++ new' ++ c'.toList.drop (sl*i.size+new'.length):=by rw[jb _ _ _ hfit',hold2]
        rw[<-Array.getElem?_toList,this,List.getElem?_append_left (List.getElem?_eq_some_iff.1 y1).1];exact y1
       refine .inl ⟨hc,_,_,(λa ha=>by cases ha;rw[aZ,Nat.zero_add];exact hwr),(λh=>by cases h),hst,lD (aH.put_same _ _ _ _) (CR.cl hc) (λ_=>by rw[aH.put_e];exact hcap)⟩
    .cases h2
   .cases h2
  | far=>simp[a8]at h2
theorem kr (z:Value) (n:Nat):(Builtin.zeroCells z.cells n).size=n*z.cells.size:=by simp[Builtin.zeroCells]
theorem rC {h h':AH}(hr:HR P σ h w){ts tx ty:TypeId}{args:Array TypeId}(ht:args[0]? = Y ts) (hx:args[1]? = Y tx){s s' x x':Value}(hs:VR σ s s') (hxx:VR σ x x'){v:Value}
  (hl:ah P h (P.underlying ts) (P.underlying tx) s x=Y (v,h')):De P σ h w (Builtin.append_ args ty #[s',x']) v h':=by
 unfold ah at hl
 split at hl
 .rename_i e dx hd hd2
  split at hl
  .rename_i i hi;unfold pt at hl
   split at hl
   .rename_i base sl K n new hsrc;have happ:∃new':List Value,br σ new new'/\((pO (Y dx)=false/\(∀W:World,(Builtin.lenOf x').run P W = .ok n W)/\∀W:World,W.heap=w.heap->(Builtin.firstCells i.size n x').run P W = .ok new'.toArray W)\/
      (pO (Y dx)=true/\n<70000000000000/\(∃k,x' = .int k (n:Int))/\∃z,i.zero=Y z/\z.cells.size=i.size/\new' = (Builtin.zeroCells z.cells n).toList)):=by
     cases hb:pO (Y dx) with
     | false=>
      rw[hb]at hsrc;simp only[cond_false]at hsrc;unfold pN at hsrc
      split at hsrc
      .rename_i m hm
       split at hsrc
       .rename_i l hl1;cases hsrc;obtain⟨new',g1,g2⟩:=sD (P:=P) hr hxx hl1;exact⟨new',g2,.inl ⟨rfl,λW=>sE hxx hm,g1⟩⟩
       .cases hsrc
      .cases hsrc
     | true=>
      rw[hb]at hsrc;simp only[cond_true]at hsrc;unfold pu at hsrc
      split at hsrc
      .rename_i z m hz hm;obtain⟨q1,q2⟩:=af hsrc;cases q2;obtain⟨q3,q4⟩:=ak q1;obtain⟨q5,q6,_⟩:=ep (σ:=σ) q4;obtain⟨k,hk⟩:=cd hxx hm;refine⟨(Builtin.zeroCells z.cells n).toList,?_,.inr ⟨rfl,dH q3,⟨k,hk⟩,z,hz,by simpa using q5,rfl⟩⟩;unfold Builtin.zeroCells;rw[jy];refine⟨rfl,λj u u' a b=>?_⟩;rw[a]at b;cases b;have hj:j<n*z.cells.toList.length:=by rw[<-lz];exact(List.getElem?_eq_some_iff.1 a).1
       rw[lC _ _ _ hj]at a;exact q6.2 _ u u a a
      .cases hsrc
    obtain⟨new',hnew,hcase⟩:=happ;obtain⟨base',cap,rfl,hz,hb1,hb2,hb3,hsz,hmain⟩:=yi hr hi hs hnew hl;obtain⟨z,hz,hzz⟩:∃z,i.zero=Y z/\z.cells.size=i.size:=by
     unfold gz at hz
     split at hz
     .rename_i z hz';exact⟨z,hz',by simpa using aq hz⟩
     .cases hz
    have hnext:∀c,c<sl+n->¬Builtin.nextslicecap (sl+n) c*i.bytes > 2 ^ 48:=λc hc hgt=>by
     have h1:=Fs (sl+n) c hc;have h2:Builtin.nextslicecap (sl+n) c*i.bytes<=(2*(sl+n)+768)*i.bytes:=Nat.mul_le_mul_right _ h1;have h3:(2*(sl+n)+768)*i.bytes=2*((sl+n)*i.bytes)+768*i.bytes:=by rw[Nat.add_mul,Nat.mul_assoc]
     omega
    have hmaxi:¬(((sl+n:Nat):Int) > IntKind.i64.max):=by
     have:IntKind.i64.max=9223372036854775807:=by decide
     omega
    unfold De;have a0:(#[Value.slice base' sl cap,x']:Array Value)[0]? = Y (.slice base' sl cap):=rfl;have a1:(#[Value.slice base' sl cap,x']:Array Value)[1]? = Y x':=rfl;have wn:n<70000000000000->IntKind.i64.wrap (n:Int)=n:=λh=>IntWalk.i64_in _ U;have wn0:¬((n:Int)<0):=U;have wn1:n<70000000000000->¬((n:Int)*(i.bytes:Int) > 2 ^ 48):=λh=>by
     have:n*i.bytes<=(sl+n)*i.bytes:=Nat.mul_le_mul_right _ U;have:((n*i.bytes:Nat):Int)<=70000000000000:=U;rw[Int.natCast_mul]at this;omega
    rcases hmain with⟨hcap,σ',w',hst,hnone,hSt,hVR⟩ | ⟨hcap,old',hold,hfresh⟩
    .refine⟨.slice base' (sl+n) cap,w',σ',?_,hSt,hVR⟩;rcases hcase with⟨hb,hlen,hf⟩ | ⟨hb,hn,⟨k,rfl⟩,z',hz',hzs,rfl⟩
     .cases dx <;>first | (cases hb;done) | skip
      all_goals
       simp only[Builtin.append_,ht,hx,a0,a1,Sem.run_bind,ap hd,ap hd2,a9 hi,Result.andThen_ok,Sem.run_pure,Bool.false_eq_true,if_false,hlen w,hcap,if_true,Bool.not_false,hf w rfl];cases base' with
       | none=>rw[hnone rfl];rfl
       | some a=>simp only[Sem.run_bind,hst a rfl,Result.andThen_ok,Sem.run_pure]
     .cases dx <;>first | (cases hb;done) | skip
      simp only[Builtin.append_,ht,hx,a0,a1,Sem.run_bind,ap hd,ap hd2,a9 hi,Result.andThen_ok,Sem.run_pure,Bool.false_eq_true,if_false,if_true,asInt,asIntOf,wn hn,wn0,hZ hi,wn1 hn,Int.toNat_natCast,hcap,Bool.not_true];by_cases h0:n*i.size=0
      .have:(Builtin.zeroCells z'.cells n) = #[]:=Array.eq_empty_of_size_eq_zero (by rw[kr,hzs];exact h0);simp only[h0,if_true,Sem.run_pure,Result.andThen_ok];rw[this]at hst;cases base' with
       | none=>rw[hnone rfl];rfl
       | some a=>simp only[Sem.run_bind,hst a rfl,Result.andThen_ok,Sem.run_pure]
      .simp only[h0,if_false,Sem.run_bind,ec hi hz',Sem.run_pure,Result.andThen_ok];cases base' with
       | none=>rw[hnone rfl];rfl
       | some a=>simp only[Sem.run_bind,hst a rfl,Result.andThen_ok,Sem.run_pure]
    .have hge:sl+n<=(Question.appendCap (sl+n) cap e).cut (w.tape w.drawn (.appendCap (sl+n) cap e)):=Nat.le_add_right _ _;generalize hnc:(Question.appendCap (sl+n) cap e).cut (w.tape w.drawn (.appendCap (sl+n) cap e))=nc at hge;have hch:(choose (.appendCap (sl+n) cap e)).run P w = .ok nc { w with drawn:=w.drawn+1 }:=by
      simp[choose,Sem.run,Question.forced,hnc]
     have hq:(Builtin.zeroCells z.cells (nc - (sl+n))).size=(nc - (sl+n))*i.size:=by rw[kr,hzz]
     obtain⟨σ',hSt,hVR⟩:=hfresh nc _ { w with drawn:=w.drawn+1,heap:=w.heap.push (.cells (old'.toArray ++ new'.toArray ++ Builtin.zeroCells z.cells (nc - (sl+n))) e) } hge hq ⟨rfl,rfl,rfl,rfl,Nat.le_succ _⟩;refine⟨_,_,σ',?_,hSt,hVR⟩;have hncap:¬sl+n<=cap:=U;have hbig:¬((((sl+n:Nat):Int) > IntKind.i64.max)/\(True\/i.bytes=0)):=λh=>hmaxi h.1;have hbig2:¬((((sl+n:Nat):Int) > IntKind.i64.max)/\(False\/i.bytes=0)):=λh=>hmaxi h.1;have hold1:=hold { w with drawn:=w.drawn+1 } rfl;rcases hcase with⟨hb,hlen,hf⟩ | ⟨hb,hn,⟨k,rfl⟩,z',hz',hzs,rfl⟩
     .have hf1:=hf { w with drawn:=w.drawn+1 } rfl;cases dx <;>first | (cases hb;done) | skip
      all_goals
       simp only[Builtin.append_,ht,hx,a0,a1,Sem.run_bind,ap hd,ap hd2,a9 hi,Result.andThen_ok,Sem.run_pure,Bool.false_eq_true,if_false,hlen w,hncap,hZ hi,hmaxi,false_and,hnext cap hcap,hch,vS,hold1,if_true,Bool.not_false,hf1,ec hi hz];simp only[newRow,Sem.run_bind,newObj,Sem.run,Sem.run_pure,Result.andThen_ok]
     .cases dx <;>first | (cases hb;done) | skip
      simp only[Builtin.append_,ht,hx,a0,a1,Sem.run_bind,ap hd,ap hd2,a9 hi,Result.andThen_ok,Sem.run_pure,Bool.false_eq_true,if_false,if_true,asInt,asIntOf,wn hn,wn0,hZ hi,wn1 hn,Int.toNat_natCast,hncap,hmaxi,false_and,hnext cap hcap,hch,vS,hold1,Bool.not_true];rw[hz]at hz';cases hz';by_cases h0:n*i.size=0
      .have:(Builtin.zeroCells z.cells n) = #[]:=Array.eq_empty_of_size_eq_zero (by rw[kr,hzs];exact h0);simp only[h0,if_true,Sem.run_pure,Result.andThen_ok,ec hi hz];simp only[newRow,Sem.run_bind,newObj,Sem.run,Sem.run_pure,Result.andThen_ok,this]
      .simp only[h0,if_false,Sem.run_bind,ec hi hz,Sem.run_pure,Result.andThen_ok];simp only[newRow,Sem.run_bind,newObj,Sem.run,Sem.run_pure,Result.andThen_ok]
   .cases hl
  .cases hl
 .cases hl
end
end Eva
end
section
open Go Go.RowKit
namespace Eva
section
variable {P:Program}{σ:aH}{w:World}
theorem jd {h h':AH}{a:Addr}{vs:List Value}(hs:bM h a vs=Y h'):a.spot=none:=by
 unfold bM at hs
 split at hs
 .assumption
 .cases hs
theorem vT {h h':AH}{a:Addr}{vs:List Value}(hs:bM h a vs=Y h'):aV flat vs=true:=by
 unfold bM at hs
 split at hs
 .exact(af hs).1
 .cases hs
theorem uj {h h':AH}(hr:HR P σ h w){ts ty:TypeId}{args:Array TypeId}(ht:args[0]? = Y ts){x x':Value}(hx:VR σ x x'){v:Value}
  (hl:fi P h (P.underlying ts) x=Y (v,h')):De P σ h w (Builtin.clear_ args ty #[x']) v h':=by
 unfold fi at hl
 split at hl
 .rename_i e a n K hd
  split at hl
  .rename_i i hi
   split at hl
   .rename_i z hz;obtain⟨h1,h2⟩:=af hl;obtain⟨q5,q6,_⟩:=ep (σ:=σ) h1;have a0:(#[x']:Array Value)[0]? = Y x':=rfl;cases h0:Nat.beq n 0 with
    | true=>
     rw[h0]at h2;cases h2;have:=aq h0;subst this;cases hx <;>exact⟨.tuple #[],w,σ,by simp[Builtin.clear_,ht,ap hd],St.refl hr,VR.tuple' (br.nil σ)⟩
    | false=>
     rw[h0]at h2;simp only[cond_false]at h2
     split at h2
     .rename_i h1' hst;cases h2;have hsp:=jd hst;cases hx with
      | @sl m b o _ _ c hm hK hq=>
       have hv:br σ (dD n z.cells.toList) (Builtin.zeroCells z.cells n).toList:=by
        unfold Builtin.zeroCells;rw[jy];refine⟨rfl,λj u u' a b=>?_⟩;rw[a]at b;cases b;have hj:j<n*z.cells.toList.length:=by rw[<-lz];exact(List.getElem?_eq_some_iff.1 a).1
        rw[lC _ _ _ hj]at a;exact q6.2 _ u u a a
       obtain⟨r1,r2⟩:=cG hr hm hv hst;refine⟨.tuple #[],_,σ,?_,r2,VR.tuple' (br.nil σ)⟩;have hn0:n≠0:=λy=>by rw[y]at h0;cases h0
       obtain⟨n',rfl⟩:=Nat.exists_eq_succ_of_ne_zero hn0;simp only[Builtin.clear_,ht,a0,Sem.run_bind,ap hd,Result.andThen_ok,ec hi hz,r1,Sem.run_pure]
      | far=>cases hsp
     .cases h2
   .cases hl
  .cases hl
 .cases hl
theorem Df (a b:Nat):(cond (Nat.ble a b) a b)=Nat.min a b:=by
 cases h:Nat.ble a b with
 | true=>simp only[cond_true];exact(Nat.min_eq_left (gc h)).symm
 | false=>
  simp only[cond_false];have:¬a<=b:=λy=>by rw[Nat.ble_eq_true_of_le y]at h;cases h
  exact(Nat.min_eq_right U).symm
theorem vU {h h':AH}(hr:HR P σ h w){td ty:TypeId}{args:Array TypeId}(ht:args[0]? = Y td){x x' s s':Value}(hx:VR σ x x') (hs:VR σ s s'){v:Value}
  (hl:jX P h (P.underlying td) x s=Y (v,h')):De P σ h w (Builtin.copy_ args ty #[x',s']) v h':=by
 unfold jX at hl
 split at hl
 .rename_i e base dl K sl hd hsl
  split at hl
  .rename_i i hi
   split at hl
   .rename_i l hfirst
    split at hl
    .rename_i h1' hc;cases hl;rw[Df]at hfirst⊢;obtain⟨l',f1,f2⟩:=sD (P:=P) hr hs hfirst;have a0:(#[x',s']:Array Value)[0]? = Y x':=rfl;have a1:(#[x',s']:Array Value)[1]? = Y s':=rfl;have hlen:=sE (P:=P) (w:=w) hs hsl;unfold xZ at hc;cases hx with
     | sl0=>
      simp only at hc;obtain⟨q1,q2⟩:=af hc;cases q2;refine⟨goInt (Nat.min sl 0:Nat),w,σ,?_,St.refl hr,.int _ _⟩;simp only[Builtin.copy_,ht,a0,a1,Sem.run_bind,ap hd,Result.andThen_ok,hlen,a9 hi,f1 w rfl,Sem.run_pure]
     | @sl m b o _ _ c hm hK hq=>
      simp only at hc;refine⟨goInt (Nat.min sl dl:Nat),w.setCells b o l',σ,?_,?_,.int _ _⟩
      .have hst:(storeCells ⟨b,o,ω⟩ l').run P w = .ok () (w.setCells b o l'):=by
        cases h0:Nat.beq l.length 0 with
        | true=>
         have:l' = []:=List.eq_nil_of_length_eq_zero (by rw[<-f2.1];exact aq h0);subst this;rfl
        | false=>rw[h0]at hc;exact(cG hr hm f2 hc).1
       simp only[Builtin.copy_,ht,a0,a1,Sem.run_bind,ap hd,Result.andThen_ok,hlen,a9 hi,f1 w rfl,Sem.run_pure,hst]
      .cases h0:Nat.beq l.length 0 with
       | true=>
        rw[h0]at hc;cases hc;have:l' = []:=List.eq_nil_of_length_eq_zero (by rw[<-f2.1];exact aq h0);subst this;exact St.refl hr
       | false=>rw[h0]at hc;exact(cG hr hm f2 hc).2
     | @far a c=>
      simp only at hc;have hmin:Nat.min sl 0=0:=Nat.min_zero sl;cases h0:Nat.beq l.length 0 with
      | true=>
       rw[h0]at hc;cases hc;have:l' = []:=List.eq_nil_of_length_eq_zero (by rw[<-f2.1];exact aq h0);subst this;refine⟨goInt (Nat.min sl 0:Nat),w,σ,?_,St.refl hr,.int _ _⟩;simp only[Builtin.copy_,ht,a0,a1,Sem.run_bind,ap hd,Result.andThen_ok,hlen,a9 hi,f1 w rfl,Sem.run_pure,storeCells]
      | false=>
       rw[h0]at hc;simp only[cond_false]at hc;exact absurd (jd hc) (by simp)
    .cases hl
   .cases hl
  .cases hl
 .cases hl
theorem uk {h h':AH}(hr:HR P σ h w){t:TypeId}{x x' u u':Value}(hx:VR σ x x') (hu:VR σ u u'){v:Value}(hl:mQ h (P.info? t) x u=Y (v,h')) :
  v=undef/\∃w',(Instr.storeAt t x' u').run P w = .ok () w'/\St P σ h w σ h' w':=by
 unfold mQ at hl
 split at hl
 .rename_i i a hi;obtain⟨h1,h2⟩:=af hl;have h1:=aq h1
  split at h2
  .rename_i h1' hst;cases h2;have hsp:=jd hst;cases hx with
   | ptr hn=>
    have hJ:=ow (vT hst);obtain⟨r1,r2⟩:=cG hr hn (hu.cells hJ) hst;refine⟨rfl,_,?_,r2⟩;have hsz:u'.cells.size=i.size:=by have:=(hu.cells hJ).1;simp at this h1;omega
    simp[Instr.storeAt,Instr.sureAddr,storeVar,a9 hi,hsz,r1]
  .cases h2
 .cases hl
theorem vV (k v:Value):∀(es:List (Value×Value×Nat)) (i:Nat),(oW k v es i).length=es.length
 | [],_=>rfl
 | _ :: r,0=>rfl
 | _ :: r,i+1=>by simp[oW,vV k v r i]
theorem sG (k v:Value):∀(es:List (Value×Value×Nat)) (i:Nat){k0 v0:Value}{b:Nat},es[i]? = Y (k0,v0,b)->(oW k v es i)[i]? = Y (k,v,b)
 | [],i,_,_,_,h=>by simp at h
 | e :: r,0,_,_,_,h=>by simp at h;subst h;rfl
 | e :: r,i+1,_,_,_,h=>by simp only[oW];simp at h⊢;exact sG k v r i h
theorem zD (k v:Value):∀(es:List (Value×Value×Nat)) (i j:Nat),i≠j->(oW k v es i)[j]? = es[j]?
 | [],i,j,_=>rfl
 | e :: r,0,j,h=>by cases j with | zero=>exact absurd rfl h | succ j=>rfl
 | e :: r,i+1,j,h=>by
  cases j with
  | zero=>rfl
  | succ j=>simp only[oW,List.getElem?_cons_succ];exact zD k v r i j U
theorem oE {kt:TypeId}{k:Value}:∀(es:List (Value×Value×Nat)) (j:Nat){i:Nat}{v:Value},gv P kt k es j=Y (Y (i,v))->j<=i/\∃key b,es[i - j]? = Y (key,v,b)/\pl key=true
 | [],j,i,v,h=>by
  have h':cond (pl k) (Y (none:Option (Nat×Value))) ω=Y (Y (i,v)):=h;obtain⟨_,h2⟩:=af h';cases h2
 | (key,u,b) :: es,j,i,v,h=>by
  have h':cond (pl k && pl key) (pJ j u (gv P kt k es (j+1)) (av P (Op.equal kt k key))) ω=Y (Y (i,v)):=h;obtain⟨h1,h2⟩:=af h';obtain⟨_,h4⟩:=ak h1;unfold pJ at h2
  split at h2
  .cases h2;exact⟨Nat.le_refl _,key,b,by simp,h4⟩
  .obtain⟨g1,key',b',g2,g3⟩:=oE es (j+1) h2;refine⟨U,key',b',?_,g3⟩;rw[show i - j=(i - (j+1))+1 by omega];simpa using g2
  .cases h2
theorem pY {b:Nat}{es':Array MapEntry}{clock:Nat}(h:w.heap[b]? = Y (.map es' clock)) (o:Obj):(setObj b o).run P w = .ok () { w with heap:=w.heap.setIfInBounds b o }:=by
 simp[setObj,Sem.run,h]
theorem vW (b:Nat) (o:Obj):vR b w { w with heap:=w.heap.setIfInBounds b o }:=
 ⟨rfl,rfl,⟨rfl,Nat.le_refl _⟩,by simp,λx hx=>by simp[Array.getElem?_setIfInBounds,Ne.symm hx]⟩
theorem pZ {h h':AH}(hr:HR P σ h w){t:TypeId}{m m' k k' u u':Value}(hm:VR σ m m') (hk:VR σ k k') (hu:VR σ u u'){v:Value}(hl:ej P h (P.underlying t) m k u=Y (v,h')) :
  v=undef/\∃w',(Instr.mapUpdate t m' k' u').run P w = .ok () w'/\St P σ h w σ h' w':=by
 unfold ej at hl
 split at hl
 .rename_i kt e r hd
  split at hl
  .rename_i es clock hg;obtain⟨h1,h2⟩:=af hl;obtain⟨h3,h4⟩:=ak h1;have hke:=vJ h3 hk;subst hke;have hc:=oC (w:=w) h4;obtain⟨d,hdd⟩:=sn hc;cases hm with
   | @map n b hn=>
    obtain⟨es',hb,hE⟩:=yc hr hn hg;have hlen:es.length=es'.size:=by simpa using hE.1
    have hblt:b<w.heap.size:=(hr.lt r b hn).2;have hb2:∀o:Obj,({ w with heap:=w.heap.setIfInBounds b o }:World).heap[b]? = Y o:=λo=>by simp[hblt]
    unfold C5 at h2
    split at h2
    .rename_i i u0 hf;obtain⟨q1,q2⟩:=af h2;cases q2;obtain⟨_,r',h5,h6⟩:=eo (w:=w) es es'.toList 0 hE hf;obtain⟨_,key,born,g2,g3⟩:=oE es 0 hf;simp only[Nat.sub_zero]at g2;cases r' with
     | none=>exact h6.elim
     | some p=>
      obtain⟨j',u1⟩:=p;obtain⟨rfl,hu1⟩:=h6;obtain⟨e',p1,p2,p3,p4⟩:=hE.2 i key u0 born g2;have p1':es'[i]? = Y e':=by simpa using p1
      have hkey:e'.key=key:=vJ g3 p2;have hbits:Instr.sameBits 10000 key k' = true:=by
       unfold jw at q1;rw[g2]at q1;exact q1
      have hstay:(Instr.keyThatStays (((es'[i]?).map (·.key)).getD k') k').run P w = .ok k' w:=by
       unfold Instr.keyThatStays;rw[p1'];simp only[Option.map_some,Option.getD_some,hkey,hbits,if_true,Sem.run_pure]
      have hset:=pY (P:=P) hb (.map (es'.modify i λe=>{ e with key:=k',val:=u' }) clock);refine⟨rfl,{ w with heap:=w.heap.setIfInBounds b (.map (es'.modify i λe=>{ e with key:=k',val:=u' }) clock) },?_,?_⟩
      .simp only[Instr.mapUpdate,Sem.run_bind,ap hd,Result.andThen_ok,fk hb,hc,fQ hdd h5,hstay];exact hset
      .refine St.upd hr hn hg (λ_ _ y=>by cases y) (vW b _) (hb2 _) (.map (by rw[vV];simpa using hlen) (λj k0 v0 b0 hj=>?_));by_cases hij:i=j
       .subst hij;rw[sG k' u es i g2]at hj;cases hj;refine⟨{ e' with key:=k',val:=u' },by simp[Array.getElem?_modify,p1'],cY h3,hu,p4⟩
       .rw[zD k' u es i j hij]at hj;obtain⟨e2,y1,y2,y3,y4⟩:=hE.2 j k0 v0 b0 hj;exact⟨e2,by rw[Array.getElem?_modify];simp[hij];simpa using y1,y2,y3,y4⟩
    .rename_i hf;cases h2;obtain⟨_,r',h5,h6⟩:=eo (w:=w) es es'.toList 0 hE hf;cases r' with
     | some p=>exact h6.elim
     | none=>
      have hset:=pY (P:=P) hb (.map (es'.push { key:=k',val:=u',born:=clock }) (clock+1));refine⟨rfl,{ w with heap:=w.heap.setIfInBounds b (.map (es'.push { key:=k',val:=u',born:=clock }) (clock+1)) },?_,?_⟩
      .simp only[Instr.mapUpdate,Sem.run_bind,ap hd,Result.andThen_ok,fk hb,hc,fQ hdd h5];exact hset
      .refine St.upd hr hn hg (λ_ _ y=>by cases y) (vW b _) (hb2 _) (.map (by simp[hlen]) (λj k0 v0 b0 hj=>?_));rcases Nat.lt_or_ge j es.length with hlt | hge
       .rw[List.getElem?_append_left hlt]at hj;obtain⟨e2,y1,y2,y3,y4⟩:=hE.2 j k0 v0 b0 hj;have y1':es'[j]? = Y e2:=by simpa using y1
        exact⟨e2,by rw[Array.getElem?_push];simp[show j≠es'.size by omega];exact y1',y2,y3,y4⟩
       .rw[List.getElem?_append_right hge]at hj;have:j - es.length=0:=by
         rcases Nat.eq_zero_or_pos (j - es.length) with y | y
         .exact y
         .rw[List.getElem?_eq_none (by simp;omega)]at hj;cases hj
        rw[this]at hj;simp at hj;obtain⟨rfl,rfl,rfl⟩:=hj;have:j=es'.size:=U;subst this;exact⟨{ key:=k',val:=u',born:=clock },by simp,cY h3,hu,rfl⟩
    .cases h2
  .cases hl
 .cases hl
theorem Bj {b:Nat}{c:Array Value}{e:TypeId}{f:Nat×Nat}(hb:w.heap[b]? = Y (.cells c e f)) (hf:f.1=f.2\/c.size<=f.1) :
  ∃f',(w.freeze ⟨b,c.size,ω⟩ 1).heap[b]? = Y (.cells c e f')/\vR b w (w.freeze ⟨b,c.size,ω⟩ 1)/\(f'.1=f'.2\/c.size<=f'.1):=by
 obtain⟨lo,hi⟩:=f;refine⟨if lo == hi then(c.size,c.size+1) else(min lo c.size,max hi (c.size+1)),?_,⟨rfl,rfl,⟨rfl,Nat.le_refl _⟩,?_,λx hx=>?_⟩,?_⟩
 .simp only[World.freeze,Nat.one_ne_zero,if_false,Array.getElem?_modify,hb];simp
 .simp[World.freeze]
 .simp only[World.freeze,Nat.one_ne_zero,if_false,Array.getElem?_modify];simp[Ne.symm hx]
 .simp only at hf;by_cases e:lo=hi
  .simp[e]
  .have:(lo == hi)=false:=by simpa using e
   simp only[this,Bool.false_eq_true,if_false];omega
theorem vX {h h':AH}(hr:HR P σ h w){s d:TypeId}{x x' v:Value}(hx:VR σ x x') (hl:zy P h s d x=Y (v,h')):De P σ h w (convert s d x') v h':=by
 unfold zy at hl
 split at hl
 .rename_i e0 e a n K hs hd
  split at hl
  .rename_i c e1 he hsp hc;obtain⟨h1,h2⟩:=af hl;cases h2;have hsd:=aq h1;subst hsd;rw[hs]at hd;cases hd;cases hx with
   | @sl m b o _ _ cap hm hK hq=>
    obtain⟨c',f',hb,hp,hf,hg,hroom⟩:=i9 hr hm hc;obtain⟨f2,hb2,hsame,hf2⟩:=Bj hb (hf rfl);refine⟨ψ (Y ⟨b,o,ω⟩) n cap,w.freeze ⟨b,c'.size,ω⟩ 1,σ,?_,?_,.sl hm hK hq⟩
    .have hsh:(shape b).run P w = .ok (Y (e1,c'.size)) w:=by simp[shape,Sem.run,World.shape?,hb]
     simp only[convert,Sem.run_bind,ap hs,Result.andThen_ok,ap he,beq_self_eq_true,markStringish,hsh,freeze,Sem.run,Sem.run_pure]
    .exact St.upd' hr hm hg (λ_ _ y=>by cases y) rfl hg (λ_ _=>rfl) hsame hb2 (.cells (λi v hv=>by obtain⟨v',h1,h2⟩:=hp i v hv;exact⟨v',by simpa using h1,h2⟩) (λ_=>hf2) hroom)
   | far=>cases hsp
  .cases hl
 .cases hl
def Yd (nx:Next) (v':Value):Prop:=nx = .value v'\/(nx = .skip/\v' = undef)
theorem cB (σ:aH):VR σ undef undef:=VR.tuple' (br.nil σ)
theorem Bl {h h':AH}(hr:HR P σ h w){o:Oper}{fr:Fr}{ρ:Operand->Value}(hE:AZ σ fr ρ o){v:Value}(hl:vE P o fr h=Y (v,h')) :
  ∃nx v' w' σ',(execOp ρ o).run P w = .ok nx w'/\Yd nx v'/\St P σ h w σ' h' w'/\VR σ' v v':=by
 unfold vE at hl
 split at hl
 .rename_i x ho;cases hl;exact⟨_,ρ x,w,σ,by simp[execOp,ho],.inl rfl,St.refl hr,hE x (by simp[ho,Op.operands])⟩
 .rename_i t x u ho;obtain⟨rfl,w',h1,h2⟩:=uk hr (hE x (by simp[ho,Op.operands])) (hE u (by simp[ho,Op.operands])) hl;exact⟨_,undef,w',σ,by simp[execOp,ho,h1],.inr ⟨rfl,rfl⟩,h2,cB σ⟩
 .rename_i t m k u ho;obtain⟨rfl,w',h1,h2⟩:=pZ hr (hE m (by simp[ho,Op.operands])) (hE k (by simp[ho,Op.operands])) (hE u (by simp[ho,Op.operands])) hl;exact⟨_,undef,w',σ,by simp[execOp,ho,h1],.inr ⟨rfl,rfl⟩,h2,cB σ⟩
 .rename_i t m k u ho;obtain⟨rfl,w',h1,h2⟩:=pZ hr (hE m (by simp[ho,Op.operands])) (hE k (by simp[ho,Op.operands])) (hE u (by simp[ho,Op.operands])) hl;exact⟨_,undef,w',σ,by simp[execOp,ho,h1],.inr ⟨rfl,rfl⟩,h2,cB σ⟩
 .rename_i s d x ho;obtain⟨v',w',σ',h1,h2,h3⟩:=vX hr (hE x (by simp[ho,Op.operands])) hl;exact⟨_,v',w',σ',by simp[execOp,ho,h1],.inl rfl,h2,h3⟩
 .rename_i c ho;have arg:∀{u:Value},xY c fr=Y u->∃u',c.args.map ρ = #[u']/\VR σ u u':=by
   intro u hu;unfold xY at hu
   split at hu
   .rename_i y hy;cases hu;have:c.args = #[y]:=Array.ext' hy;refine⟨ρ y,by rw[this];simp,hE y ?_⟩;simp[ho,Op.operands,Call.operands,this]
   .cases hu
  have args:∀{u z:Value},zx c fr=Y (u,z)->∃u' z',c.args.map ρ = #[u',z']/\VR σ u u'/\VR σ z z':=by
   intro u z hu;unfold zx at hu
   split at hu
   .rename_i x y hy;cases hu;have:c.args = #[x,y]:=Array.ext' hy;refine⟨ρ x,ρ y,by rw[this];simp,hE x ?_,hE y ?_⟩ <;>simp[ho,Op.operands,Call.operands,this]
   .cases hu
  have typ:∀{d:TypeDesc},fF P c=Y d->∃t,c.argTypes[0]? = Y t/\fF P c=P.underlying t:=by
   intro d hd;unfold fF at hd⊢
   split at hd
   .rename_i t ts ht;exact⟨t,by rw[<-Array.getElem?_toList,ht];rfl,rfl⟩
   .cases hd
  have typ':∀{d:TypeDesc},AW P c=Y d->∃t,c.argTypes[1]? = Y t/\AW P c=P.underlying t:=by
   intro d hd;unfold AW at hd⊢
   split at hd
   .rename_i t0 t ts ht;exact⟨t,by rw[<-Array.getElem?_toList,ht];rfl,rfl⟩
   .cases hd
  unfold GJ at hl
  split at hl
  .rename_i hb
   split at hl
   .rename_i s x ha;obtain⟨s',x',e1,e2,e3⟩:=args ha;cases hq:fF P c with
    | none=>rw[hq]at hl;simp[ah]at hl
    | some d=>
     cases hq2:AW P c with
     | none=>rw[hq2]at hl;simp[ah]at hl
     | some d2=>
      obtain⟨t,ht,r1⟩:=typ hq;obtain⟨t2,ht2,r2⟩:=typ' hq2;rw[r1,r2]at hl;obtain⟨v',w',σ',h1,h2,h3⟩:=rC (ty:=o.type) hr ht ht2 e2 e3 hl;exact⟨_,v',w',σ',by simp only[execOp,ho,resolve,hb,e1,Sem.run_bind,Sem.run_pure,Result.andThen_ok,invoke,builtin,h1],.inl rfl,h2,h3⟩
   .cases hl
  .rename_i hb
   split at hl
   .rename_i x ha;obtain⟨x',e1,e2⟩:=arg ha;cases hq:fF P c with
    | none=>rw[hq]at hl;simp[fi]at hl
    | some d=>
     obtain⟨t,ht,r1⟩:=typ hq;rw[r1]at hl;obtain⟨v',w',σ',h1,h2,h3⟩:=uj (ty:=o.type) hr ht e2 hl;exact⟨_,v',w',σ',by simp only[execOp,ho,resolve,hb,e1,Sem.run_bind,Sem.run_pure,Result.andThen_ok,invoke,builtin,h1],.inl rfl,h2,h3⟩
   .cases hl
  .rename_i hb
   split at hl
   .rename_i x s ha;obtain⟨x',s',e1,e2,e3⟩:=args ha;cases hq:fF P c with
    | none=>rw[hq]at hl;simp[jX]at hl
    | some d=>
     obtain⟨t,ht,r1⟩:=typ hq;rw[r1]at hl;obtain⟨v',w',σ',h1,h2,h3⟩:=vU (ty:=o.type) hr ht e2 e3 hl;exact⟨_,v',w',σ',by simp only[execOp,ho,resolve,hb,e1,Sem.run_bind,Sem.run_pure,Result.andThen_ok,invoke,builtin,h1],.inl rfl,h2,h3⟩
   .cases hl
  .cases hl
 .cases hl
end
end Eva
end
section
open Go Go.RowKit
namespace Eva
section
variable {P:Program}{σ:aH}{w:World}
def TR (σ:aH) (fr:Fr) (a:Act) (t:Nat):Prop:=VR σ (cv (fr.get t)) (a.tmps.getD t undef)
structure Cz (σ:aH) (fr:Fr) (a:Act) (X:Nat->Prop):Prop where
 n:fr.n=a.tmps.size
 d:a.defers = []
 t:∀t,¬X t->TR σ fr a t
abbrev AR (σ:aH) (fr:Fr) (a:Act):Prop:=Cz σ fr a (λ_=>False)
theorem Cz.mono {σ σ':aH}{fr:Fr}{a:Act}{X:Nat->Prop}(h:Cz σ fr a X) (hle:aH.le σ σ'):Cz σ' fr a X:=⟨h.n,h.d,λt ht=>(h.t t ht).mono hle⟩
theorem ie {fr:Fr}{d:Nat}{v:Value}(h:d<fr.n):(fr.put d v).get d=Y v:=by
 unfold Fr.put Fr.get;rw[show Nat.blt d fr.n=true from Nat.ble_eq_true_of_le h];exact Tr.get_set _ _ _
theorem p9 {fr:Fr}{d t:Nat}{v:Value}(h:t≠d):(fr.put d v).get t=fr.get t:=by
 unfold Fr.put Fr.get;cases Nat.blt d fr.n
 .rfl
 .exact Tr.get_set_ne _ _ (Ne.symm h)
theorem oF {fr:Fr}{d t:Nat}{v:Value}(h:¬d<fr.n):fr.put d v=fr:=by
 unfold Fr.put;have:Nat.blt d fr.n=false:=by
  cases hb:Nat.blt d fr.n with
  | false=>rfl
  | true=>exact absurd (dH hb) h
 rw[this];rfl
theorem IQ {fr:Fr}{d:Nat}{v:Value}:(fr.put d v).n=fr.n:=by
 unfold Fr.put;cases Nat.blt d fr.n <;>rfl
theorem qa {fr:Fr}{d:Option Tmp}{v:Value}:(dF fr d v).n=fr.n:=by
 cases d <;>simp[dF,IQ]
theorem fm {fr:Fr}{d:Option Tmp}{v:Value}{t:Nat}(h:d≠Y t):(dF fr d v).get t=fr.get t:=by
 cases d with
 | none=>rfl
 | some d=>exact p9 (λe=>h (by rw[e]))
theorem oG (a:Act) (d:Option Tmp) (v:Value) (t:Nat):(a.put d v).tmps.getD t undef=if d=Y t/\t<a.tmps.size then v else a.tmps.getD t undef:=by
 cases d with
 | none=>simp[Act.put]
 | some d=>
  simp only[Act.put,Array.getD_eq_getD_getElem?,Array.getElem?_setIfInBounds,Option.some.injEq];by_cases e:d=t
  .subst e;by_cases h:d<a.tmps.size
   .simp[h]
   .simp[h]
  .simp[e]
theorem eW (a:Act) (d:Option Tmp) (v:Value):(a.put d v).tmps.size=a.tmps.size:=by cases d <;>simp[Act.put]
theorem je (a:Act) (d:Option Tmp) (v:Value):(a.put d v).defers=a.defers:=by cases d <;>rfl
theorem Cz.put {fr:Fr}{a:Act}{X:Nat->Prop}(h:Cz σ fr a X){d:Option Tmp}{v v':Value}(hv:VR σ v v'):Cz σ (dF fr d v) (a.put d v') X:=by
 refine⟨by rw[qa,eW];exact h.n,by rw[je];exact h.d,λt ht=>?_⟩;unfold TR;rw[oG];by_cases hd:d=Y t
 .subst hd;by_cases hlt:t<a.tmps.size
  .rw[if_pos ⟨rfl,hlt⟩];simp only[dF];rw[ie (by rw[h.n];exact hlt)];exact hv
  .rw[if_neg (λy=>hlt y.2)];simp only[dF];rw[oF (t:=t) (by rw[h.n];exact hlt)];exact h.t t ht
 .rw[if_neg (λy=>hd y.1),fm hd];exact h.t t ht
theorem Bm {ops:Array Oper}{o:Oper}{t:Nat}(h:Operand.tmp t∈o.op.operands):t∈o.looksAt ops:=
 List.mem_append_left _ (List.mem_filterMap.2 ⟨.tmp t,by simpa using h,rfl⟩)
theorem um {ops:Array Oper}{o:Oper}{fr:Fr}{a:Act}(hc:bT o=true) (h:∀t∈o.looksAt ops,TR σ fr a t):AZ σ fr a.eval o:=by
 intro x hx;have h1:=aY hc x (by simpa using hx);cases x with
 | tmp t=>exact h t (Bm hx)
 | const v=>exact cY h1
 | global g=>cases h1
 | func f=>exact .func _ rfl (λi v v' y=>by simp at y) rfl (λi v v' y=>by simp at y)
def LV:Option Value->Option Bool
 | some (.bool c)=>Y c
 | _=>ω
theorem Hm {o:Option Value}{p:Option Value}{b:Bool}(h:VR σ (cv o) (p.getD undef)) :
  Ku b o=(LV p == Y b):=by
 cases o with
 | none=>
  simp only[cv]at h;cases p with
  | none=>rfl
  | some v=>
   simp only[Option.getD_some]at h;unfold undef at h;cases h;rfl
 | some u=>
  simp only[cv]at h;cases p with
  | none=>
   simp only[Option.getD_none]at h;unfold undef at h;cases h with
   | any _ hv=>rfl
   | _=>rfl
  | some v=>
   simp only[Option.getD_some]at h;cases h with
   | bool c=>cases b <;>cases c <;>rfl
   | any _ hv=>cases v <;>first | rfl | (simp[Hj]at hv)
   | _=>rfl
theorem px {ops:Array Oper}{o:Oper}{fr:Fr}{a:Act}(h:∀t∈o.looksAt ops,TR σ fr a t):Region.wanted o (yielded ops a.tmps)=dE ops fr o:=by
 unfold Region.wanted dE;cases hg:o.guard with
 | none=>rfl
 | some gw=>
  obtain⟨j,b⟩:=gw;simp only;unfold yielded;cases hj:ops[j]? with
  | none=>rfl
  | some g=>
   simp only[Option.bind_some];cases hd:g.dst with
   | none=>rfl
   | some d=>
    simp only[Option.bind_some];have hl:d∈o.looksAt ops:=by
     refine List.mem_append_right _ ?_;rw[hg];simp[hj,hd]
    have:=h d hl;unfold TR at this;rw[Array.getD_eq_getD_getElem?]at this;rw[Hm this]
    congr 1
def dI (P:Program) (call:mL):Prop:=
 ∀g args h v h',call g args h=Y (v,h')->∀(σ:aH) (w:World) (args':Array Value),HR P σ h w->br σ args args'.toList->
  Calls P g args' w (λe w'=>∃v' σ',e = .returned v'/\St P σ h w σ' h' w'/\VR σ' v v')
theorem un {o:Oper}{fr:Fr}{ρ:Operand->Value}(hE:AZ σ fr ρ o){g:FuncId}{args:List Value}(h:callee P o fr=Y (g,args)) :
  ∃args':Array Value,(execOp ρ o).run P w = .ok (.enter g args') w/\br σ args args'.toList:=by
 unfold callee at h
 split at h
 .rename_i c ho
  split at h
  .rename_i f hf;have hops:∀x∈c.operands,VR σ (ev fr x) (ρ x):=λx hx=>hE x (by simpa[ho,Op.operands]using hx);have hfv:=hops f (by simp[Call.operands,hf]);unfold zz at h
   split at h
   .rename_i g' a b hef;obtain⟨h1,h2⟩:=af h;cases h2;rw[hef]at hfv;generalize hρ:ρ f=f' at hfv;cases hfv with
    | @func _ _ a' _ b' s1 x1 s2 x2=>
     unfold bh at h1
     split at h1
     .rename_i fn hfn;obtain⟨q1,q2⟩:=ak h1;have q2:(fn.name == "runtime.NumGoroutine")=false:=by simpa using q2
      have q1:fn.body.isNone=false:=by cases hb:fn.body <;>simp_all
      refine⟨a' ++ c.args.map ρ ++ b',?_,?_⟩
      .simp only[execOp,ho,resolve,hf,hρ,Deferred.ofValue,Sem.run_bind,Sem.run_pure,Result.andThen_ok,invoke,callFunc,program,Sem.run,hfn,q2,q1,Bool.false_eq_true,if_false]
      .have m:br σ (c.args.toList.map (ev fr)) (c.args.map ρ).toList:=by
        rw[Array.toList_map];exact br.of_map _ _ _ λx hx=>hops x (by simp[Call.operands,hf];right;simpa using hx)
       have ha:br σ a.toList a'.toList:=⟨by simpa using s1,λi v v' y z=>x1 i v v' (by simpa using y) (by simpa using z)⟩;have hb:br σ b.toList b'.toList:=⟨by simpa using s2,λi v v' y z=>x2 i v v' (by simpa using y) (by simpa using z)⟩;simpa using(ha.append m).append hb
     .cases h1
   .cases h
  .cases h
 .cases h
theorem yj {o:Oper}(h:aI P o = .loud):jY o=true:=by
 unfold aI at h;unfold jY
 split <;>simp_all
theorem yk {call:mL}(hcall:dI P call){o:Oper}{a:Act}{fr fr':Fr}{h h':AH}(hk:aI P o = .loud) (hr:HR P σ h w) (hE:AZ σ fr a.eval o)
  (hop:Kw P call o fr h .loud=Y (fr',h')){K:Act->World->Prop}{Q:Exit->Act->World->Prop}
  (hK:∀v v' w' σ',fr' = dF fr o.dst v->St P σ h w σ' h' w'->VR σ' v v'->K (a.put o.dst v') w'):o.wp P a w K Q:=by
 have hop':oq P call o fr h (vE P o fr h)=Y (fr',h'):=hop;unfold oq at hop';unfold Oper.wp
 split at hop'
 .rename_i v h1 hl;cases hop';obtain⟨nx,v',w',σ',r1,r2,r3,r4⟩:=Bl hr hE hl;rw[r1];rcases r2 with rfl | ⟨rfl,rfl⟩
  .exact hK v v' w' σ' rfl r3 r4
  .exact hK v undef w' σ' rfl r3 r4
 .unfold vF at hop'
  split at hop'
  .rename_i g args hc;obtain⟨args',r1,r2⟩:=un (w:=w) hE hc;rw[r1];cases hcl:call g args h with
   | none=>rw[hcl]at hop';cases hop'
   | some vh=>
    obtain⟨v,h1⟩:=vh;rw[hcl]at hop';cases hop';have:=hcall g args h v _ hcl σ w args' hr r2;refine Calls.mono this (λe w' he=>?_);obtain⟨v',σ',rfl,hs,hv⟩:=he;exact hK v v' w' σ' rfl hs hv
  .cases hg:Cy P o fr with
   | none=>rw[hg]at hop';cases hop'
   | some v=>
    rw[hg]at hop';cases hop';obtain⟨r1,r2⟩:=dm (w:=w) (yj hk) hE hg;rw[r1];exact hK v v w σ rfl (St.refl hr) r2
theorem mW {call:mL}(hcall:dI P call){o:Oper}{a:Act}{fr fr':Fr}{h h':AH}(hr:HR P σ h w) (hE:AZ σ fr a.eval o)
  (hop:Kw P call o fr h (aI P o)=Y (fr',h')){K:Act->World->Prop}{Q:Exit->Act->World->Prop}
  (hK:∀v v' w' σ',fr' = dF fr o.dst v->St P σ h w σ' h' w'->VR σ' v v'->K (a.put o.dst v') w'):o.wp P a w K Q:=by
 cases hk:aI P o with
 | loud=>rw[hk]at hop;exact yk hcall hk hr hE hop hK
 | val=>
  rw[hk]at hop;have hop':C6 fr h o.dst (rp P o fr h)=Y (fr',h'):=hop;cases hv:rp P o fr h with
  | none=>rw[hv]at hop';cases hop'
  | some v=>
   rw[hv]at hop';cases hop';obtain⟨v',r1,r2⟩:=su hr hE hv;unfold Oper.wp;rw[r1];exact hK v v' w σ rfl (St.refl hr) r2
 | lay=>
  rw[hk]at hop;have hop':Fm fr h o.dst (AU P o fr)=Y (fr',h'):=hop;cases hv:AU P o fr with
  | none=>rw[hv]at hop';cases hop'
  | some bf=>
   obtain⟨b,f⟩:=bf;rw[hv]at hop';cases hop';obtain⟨v',ob',w',E,r1,r2,r3,r4⟩:=sy (w:=w) hE hv;unfold Oper.wp;rw[r1];exact hK (f h.next) v' w' _ rfl (St.laid hr r2 r3) (r4 _ _ (aH.put_same _ _ _ _) (aH.put_e _ _ _ _))
theorem fo {call:mL}(hcall:dI P call){ops:Array Oper}{Q:Exit->Act->World->Prop}:∀(l:List Nat) (os:List Oper){σ:aH}{w:World}{a:Act}{fr fr':Fr}{h h':AH},
  l.map (λi=>ops[i]?)=os.map Y->HR P σ h w->AR σ fr a->fj P call ops os fr h=Y (fr',h')->
  (∀σ' a' w',St P σ h w σ' h' w'->AR σ' fr' a'->Q .normal a' w')->wpOps P ops Q l a w
 | [],os,σ,w,a,fr,fr',h,h',hl,hr,hA,ho,hQ=>by
  have:os = []:=by cases os <;>simp_all
  subst this;have ho':Y (fr,h)=Y (fr',h'):=ho;cases ho';exact hQ σ a w (St.refl hr) hA
 | i :: l,os,σ,w,a,fr,fr',h,h',hl,hr,hA,ho,hQ=>by
  cases os with
  | nil=>simp at hl
  | cons o os=>
   simp only[List.map_cons,List.cons.injEq]at hl;obtain⟨hi,hl⟩:=hl;have ho':andThen (fj P call ops os) (iW P call ops o fr h)=Y (fr',h'):=ho;cases h1:iW P call ops o fr h with
   | none=>rw[h1]at ho';cases ho'
   | some fh=>
    obtain⟨fr1,h1'⟩:=fh;rw[h1]at ho';have ho2:fj P call ops os fr1 h1' = Y (fr',h'):=ho';have hT:∀t∈o.looksAt ops,TR σ fr a t:=λt _=>hA.t t (λx=>x);have hw:=px (ops:=ops) (o:=o) hT;simp only[wpOps,hi];unfold iW at h1;cases hwant:dE ops fr o with
    | false=>
     rw[hwant]at h1 hw;simp only[cond_false]at h1;cases h1;simp only[hw,Bool.false_eq_true,if_false];exact fo hcall l os hl hr (hA.put (cB σ)) ho2 hQ
    | true=>
     rw[hwant]at h1 hw;simp only[cond_true]at h1;obtain⟨hc,h2⟩:=af h1;simp only[hw,if_true];refine .inl (mW hcall hr (um hc hT) h2 ?_);rintro v v' w' σ' rfl hs hv;exact fo hcall l os hl hs.hr ((hA.mono hs.ext).put hv) ho2 (λσ2 a2 w2 hs2 hA2=>hQ σ2 a2 w2 (hs.trans hs2) hA2)
end
end Eva
end
section
open Go Go.RowKit
namespace Eva
section
variable {P:Program}{σ:aH}{w:World}
def Fu (h h':AH):Prop:=∀m o,h.get m=Y o->h'.get m=Y o
theorem qc {h h':AH}(hle:Fu h h'){n:Nat}{x:List Value×TypeId×Bool}(hx:a8 h n=Y x):a8 h' n=Y x:=by
 unfold a8 at hx⊢
 split at hx
 .rename_i c e f hg;rw[hle _ _ hg];exact hx
 .cases hx
theorem Dg {h h':AH}(hle:Fu h h'){a:Addr}{n:Nat}{l:List Value}(hx:jW h a n=Y l):jW h' a n=Y l:=by
 unfold jW at hx⊢
 split at hx
 .rename_i c e f hs hc;rw[hs,qc hle hc];exact hx
 .cases hx
theorem Hn {h h':AH}(hle:Fu h h'){o:Oper}{fr:Fr}{v:Value}(hv:rp P o fr h=Y v):rp P o fr h' = Y v:=by
 unfold rp at hv⊢
 split at hv
 all_goals first
  | exact hv
  | skip
 .rename_i t x ho;unfold iK at hv⊢
  split at hv
  .rename_i a hx
   split at hv
   .rename_i c e f hs hc;rw[hs,qc hle hc];exact hv
   .cases hv
  .cases hv
 .rename_i t x ix ok ho;unfold bp at hv⊢
  split at hv
  .rename_i kt e r hd hx
   split at hv
   .rename_i es i hes hi;have:lr h' r=Y es:=by
     unfold lr at hes⊢
     split at hes
     .exact hes
     .rename_i n
      split at hes
      .rename_i es0 cl hg;rw[hle _ _ hg];exact hes
      .cases hes
    rw[this,hi];exact hv
   .cases hv
  .cases hv
 .rename_i c ho;unfold pL at hv⊢
  split at hv
  .split at hv
   .rename_i x hx;unfold AS at hv⊢
    split at hv
    .exact hv
    .rename_i r;obtain⟨h1,h2⟩:=af hv;rw[h1];simp only[cond_true];unfold kj at h2⊢
     split at h2
     .rename_i es cl hg;rw[hle _ _ hg];exact h2
     .cases h2
    .exact hv
    .cases hv
   .cases hv
  .exact hv
  .exact hv
 .rename_i s d x ho;unfold pM at hv⊢
  split at hv
  .rename_i a len K hx
   split at hv
   .rename_i e hs hd
    split at hv
    .rename_i he
     split at hv
     .rename_i l hl;have:hY h' a len=Y l:=by
       unfold hY at hl⊢;cases a with
       | none=>exact hl
       | some b=>
        simp only at hl⊢;cases h0:Nat.beq len 0 with
        | true=>rw[h0]at hl;exact hl
        | false=>rw[h0]at hl;exact Dg hle hl
      rw[this];exact hv
     .cases hv
    .cases hv
   .cases hv
  .exact hv
theorem Bn {o:Oper}(hl:looks P o.op=false) (fr:Fr) (h h':AH):rp P o fr h=rp P o fr h':=by
 unfold rp;cases ho:o.op <;>rw[ho]at hl <;>first | rfl | (cases hl;done) | skip
 .rename_i s d x;show pM P o fr h s d (ev fr x)=pM P o fr h' s d (ev fr x);unfold pM;cases ev fr x <;>simp only;unfold looks at hl;simp only at hl
  split
  .rename_i h1 h2;rw[h1,h2]at hl;cases hl
  .rfl
 .rename_i c;show pL P o fr h c=pL P o fr h' c;unfold pL;unfold looks at hl;simp only at hl
  split
  .rename_i hc;rw[hc]at hl;simp only at hl
   split
   .rename_i x _;unfold AS
    split
    .rfl
    .rw[hl];rfl
    .rfl
    .rfl
   .rfl
  .rfl
  .rfl
theorem sH {a b:Addr}(h:mN a b=true):a=b:=by
 unfold mN at h;obtain⟨h1,h2⟩:=em h;obtain⟨h3,h4⟩:=em h2;have h1':=aq h1;have h3':=aq h3;clear h h1 h2 h3;obtain⟨x,y,z⟩:=a;obtain⟨x',y',z'⟩:=b;simp only at h1' h3' h4;subst h1';subst h3';cases z <;>cases z' <;>first | rfl | cases h4 | (rw[aq h4])
theorem jz {f:Value->Value->Bool}(hf:∀u v,f u v=true->u=v):∀(l m:List Value),ry f l m=true->l=m
 | [],[],_=>rfl
 | [],_ :: _,h=>by cases h
 | _ :: _,[],h=>by cases h
 | x :: l,y :: m,h=>by
  have h':cond (f x y) (ry f l m) false=true:=h;obtain⟨h1,h2⟩:=em h';rw[hf x y h1,jz hf l m h2]
theorem ge:∀(n:Nat) (u v:Value),EY n u v=true->u=v
 | 0,u,v,h=>by cases h
 | n+1,u,v,h=>by
  have h':oU (EY n) u v=true:=h;unfold oU at h'
  split at h'
  .simp at h';rw[h']
  .simp at h';rw[h'.1,h'.2]
  .rename_i a b;have:a.data=b.data:=Array.ext' (by simpa using h');cases a;cases b;simp at this;rw[this]
  .rfl
  .rw[sH h']
  .obtain⟨h1,h2⟩:=ak h';rw[aq h1,aq h2]
  .obtain⟨h1,h2⟩:=ak h';obtain⟨h3,h4⟩:=ak h1;rw[sH h3,aq h4,aq h2]
  .rfl
  .rw[aq h']
  .rfl
  .rfl
  .obtain⟨h1,h2⟩:=ak h';rw[aq h1,ge n _ _ h2]
  .rename_i a b;rw[Array.ext' (jz (ge n) _ _ h')]
  .rename_i a b;rw[Array.ext' (jz (ge n) _ _ h')]
  .obtain⟨h1,h2⟩:=ak h';obtain⟨h3,h4⟩:=ak h1;rw[aq h3,Array.ext' (jz (ge n) _ _ h4),Array.ext' (jz (ge n) _ _ h2)]
  .cases h'
theorem jA {x:Nat}:∀{l:List Nat},mem x l=true↔x∈l
 | []=>by constructor <;>(intro h;cases h)
 | y :: l=>by
  have e:mem x (y :: l)=cond (Nat.beq x y) true (mem x l):=rfl;rw[e];cases h:Nat.beq x y with
  | true=>have:=aq h;subst this;simp
  | false=>
   have hne:x≠y:=λz=>by subst z;rw[Nat.beq_refl]at h;cases h
   simp only[cond_false,List.mem_cons,hne,false_or];exact jA
inductive rD (P:Program) (ops:Array Oper):List Nat->List Nat->List (Nat×List Nat)->Prop
 | nil (T:List Nat):rD P ops T [] []
 | quiet {T rest:List Nat}{j:Nat}{o:Oper}{l:List (Nat×List Nat)}:j∈rest->ops[j]? = Y o->(∀x∈bX o,x∈T)->bZ P o=false->rD P ops (j :: T) (dG j rest) l->rD P ops T rest ((j,[]) :: l)
 | loud {T rest:List Nat}{j:Nat}{o:Oper}{l:List (Nat×List Nat)}:j∈rest->ops[j]? = Y o->(∀x∈bX o,x∈T)->bZ P o=true->(∀x∈rest,x≠j->ready ops T x=false)->
   rD P ops (j :: T) (dG j rest) l->rD P ops T rest ((j,T.filter λx=>!(mem x (EZ ops 12 j)) && sg P ops x) :: l)
theorem qd {ops:Array Oper}{T:List Nat}{j:Nat}(h:ready ops T j=true):∃o,ops[j]? = Y o/\∀x∈bX o,x∈T:=by
 unfold ready at h
 split at h
 .rename_i o ho;exact⟨o,ho,λx hx=>jA.1 (aY h x hx)⟩
 .cases h
theorem py {α:Type}{p:α->Bool}:∀{l:List α},(∀x∈l,p x=true)->aV p l=true
 | [],_=>rfl
 | y :: l,h=>by
  have e:aV p (y :: l)=cond (p y) (aV p l) false:=rfl;rw[e,h y (by simp)];exact py λx hx=>h x (by simp[hx])
theorem Dh {ops:Array Oper}{T:List Nat}{j:Nat}{o:Oper}(ho:ops[j]? = Y o) (h:∀x∈bX o,x∈T):ready ops T j=true:=by
 unfold ready;rw[ho];exact py λx hx=>jA.2 (h x hx)
theorem mX {ops:Array Oper}:∀(f:Nat) (T rest:List Nat){l:List (Nat×List Nat)},plan P ops f T rest=Y l->rD P ops T rest l
 | f,T,[],l,h=>by
  have:l = []:=by cases f <;>(simp[plan]at h;exact h)
  subst this;exact .nil T
 | 0,T,r :: rest,l,h=>by simp[plan]at h
 | f+1,T,r :: rest,l,h=>by
  unfold plan at h
  split at h
  .rename_i j hj;rw[Option.map_eq_some_iff]at h;obtain⟨l',h1,rfl⟩:=h;have hmem:=List.mem_of_find?_eq_some hj;have hq:=List.find?_some hj;unfold tY at hq;obtain⟨h2,h3⟩:=em hq;obtain⟨o,ho,hw⟩:=qd h2;rw[ho]at h3;exact .quiet hmem ho hw (by simpa using h3) (mX f _ _ h1)
  .rename_i hnone
   split at h
   .rename_i j hj;rw[Option.map_eq_some_iff]at h;obtain⟨l',h1,rfl⟩:=h;have hjm:j∈(r :: rest).filter (ready ops T):=by rw[hj];simp
    obtain⟨h2,h3⟩:=List.mem_filter.1 hjm;obtain⟨o,ho,hw⟩:=qd h3;have hloud:bZ P o=true:=by
     have:=List.find?_eq_none.1 hnone j h2;unfold tY at this;rw[h3,ho]at this;simpa using this
    refine .loud h2 ho hw hloud (λx hx hne=>?_) (mX f _ _ h1);cases hrx:ready ops T x with
    | false=>rfl
    | true=>
     have:x∈(r :: rest).filter (ready ops T):=List.mem_filter.2 ⟨hx,hrx⟩;rw[hj]at this;simp at this;exact absurd this hne
   .cases h
inductive rF (P:Program) (ops:Array Oper):List Nat->Prop
 | nil:rF P ops []
 | cons {T:List Nat}{j:Nat}{o:Oper}:rF P ops T->ops[j]? = Y o->(∀x∈bX o,x∈T)->km P ops T j=true->j ∉ T->rF P ops (j :: T)
structure Kx (P:Program) (ops:Array Oper) (x o:Oper) (i:Nat):Prop where
 xo:bZ P x=true\/(∀d,x.dst=Y d->d ∉ o.looksAt ops)\/i∈bX o
 ox:bZ P x=true\/(∀d,o.dst=Y d->d ∉ x.looksAt ops/\x.dst≠Y d)\/(i∈bX o/\bZ P o=true)
theorem lF {ops:Array Oper}{T:List Nat}{j i:Nat}{o x:Oper}(hj:ops[j]? = Y o) (hi:ops[i]? = Y x) (hm:i∈T) (h:km P ops T j=true):Kx P ops x o i:=by
 unfold km at h;rw[hj]at h;simp only[Bool.and_eq_true,List.all_eq_true]at h;have h1:=h.1 i hm;unfold vG at h1;rw[hi]at h1;simp only[Bool.or_eq_true,Bool.and_eq_true]at h1;rcases h1 with(h1 | h1) | ⟨h1,h2⟩
 .exact⟨.inl h1,.inl h1⟩
 .obtain⟨a,b,c⟩:=Oper.apart_spec h1;exact⟨.inr (.inl a),.inr (.inl λd hd=>⟨c d hd,λe=>b d e hd⟩)⟩
 .have hw:=jA.1 h1;refine⟨.inr (.inr hw),?_⟩;rcases h2 with h2 | h2
  .exact .inr (.inr ⟨hw,h2⟩)
  .unfold C7 at h2;refine .inr (.inl λd hd=>?_);rw[hd]at h2;simpa using h2
theorem zE {ops:Array Oper}{T:List Nat}{j:Nat}{o:Oper}(hj:ops[j]? = Y o) (h:km P ops T j=true) (hq:bZ P o=false):∀d,o.dst=Y d->d ∉ o.looksAt ops:=by
 intro d hd;unfold km at h;rw[hj]at h;simp only[Bool.and_eq_true,hq,Bool.false_or,hd]at h;simpa using h.2
theorem rF.open_ {ops:Array Oper}{T:List Nat}(h:rF P ops T) (L:Nat->Prop) (hex:∃i∈T,¬L i):∃i∈T,¬L i/\∃o,ops[i]? = Y o/\∀x∈bX o,L x:=by
 induction h with
 | nil=>obtain⟨i,hi,_⟩:=hex;cases hi
 | @cons T j o hT ho hw _ _ ih=>
  by_cases h2:∃i∈T,¬L i
  .obtain⟨i,hi,h3⟩:=ih h2;exact⟨i,List.mem_cons_of_mem _ hi,h3⟩
  .obtain⟨i,hi,hl⟩:=hex;have hall:∀x∈T,L x:=λx hx=>Classical.byContradiction λhn=>h2 ⟨x,hx,hn⟩;have:i=j:=by
    cases hi with
    | head=>rfl
    | tail _ hm=>exact absurd (hall i hm) hl
   subst this;exact⟨i,by simp,hl,o,ho,λx hx=>hall x (hw x hx)⟩
theorem rF.quiet2 {ops:Array Oper}{T:List Nat}(h:rF P ops T){i j:Nat}{x y:Oper}(hi:i∈T) (hj:j∈T) (hx:ops[i]? = Y x) (hy:ops[j]? = Y y) (qx:bZ P x=false) (qy:bZ P y=false) (hne:i≠j) :
  ((∀d,x.dst=Y d->d ∉ y.looksAt ops)\/i∈bX y)/\(∀d,x.dst=Y d->y.dst≠Y d):=by
 induction h with
 | nil=>cases hi
 | @cons T k o hT ho hw hl hk ih=>
  cases hi with
  | head=>
   rw[ho]at hx;cases hx;cases hj with
   | head=>exact absurd rfl hne
   | tail _ hjm=>
    have hp:=lF ho hy hjm hl;rcases hp.ox with h1 | h1 | ⟨h1,h2⟩
    .rw[qy]at h1;cases h1
    .exact⟨.inl λd hd=>(h1 d hd).1,λd hd=>(h1 d hd).2⟩
    .rw[qx]at h2;cases h2
  | tail _ him=>
   cases hj with
   | head=>
    rw[ho]at hy;cases hy;have hp:=lF ho hx him hl;have h1:(∀d,x.dst=Y d->d ∉ y.looksAt ops)\/i∈bX y:=by
     rcases hp.xo with h1 | h1
     .rw[qx]at h1;cases h1
     .exact h1
    have h2:∀d,x.dst=Y d->y.dst≠Y d:=by
     rcases hp.ox with h2 | h2 | ⟨_,h2⟩
     .rw[qx]at h2;cases h2
     .exact λd hd e=>(h2 d e).2 hd
     .rw[qy]at h2;cases h2
    exact⟨h1,h2⟩
   | tail _ hjm=>exact ih him hjm
theorem rF.self {ops:Array Oper}{T:List Nat}(h:rF P ops T){i:Nat}{x:Oper}(hi:i∈T) (hx:ops[i]? = Y x) (qx:bZ P x=false):∀d,x.dst=Y d->d ∉ x.looksAt ops:=by
 induction h with
 | nil=>cases hi
 | @cons T k o hT ho hw hl hk ih=>
  cases hi with
  | head=>rw[ho]at hx;cases hx;exact zE ho hl qx
  | tail _ him=>exact ih him
theorem vY {ops:Array Oper}{L:Nat->Prop}(hc:∀i o,L i->ops[i]? = Y o->∀x∈bX o,L x):∀(f j:Nat){o:Oper},ops[j]? = Y o->(∀x∈bX o,L x)->∀x∈EZ ops f j,L x
 | 0,j,o,ho,hw,x,hx=>by cases hx
 | f+1,j,o,ho,hw,x,hx=>by
  simp only[EZ,ho,List.mem_append,List.mem_flatMap]at hx;rcases hx with hx | ⟨y,hy,hx⟩
  .exact hw x hx
  .cases hoy:ops[y]? with
   | none=>cases f <;>simp[EZ,hoy]at hx
   | some oy=>exact vY hc f y hoy (hc y oy (hw y hy) hoy) x hx
end
end Eva
end
section
open Go Go.RowKit
namespace Eva
section
variable {P:Program}{σ:aH}{w:World}
abbrev gf (listed:Array Bool) (i:Nat):Prop:=listed.getD i false=true
def GM (P:Program) (ops:Array Oper) (σ:aH) (h:AH) (fr:Fr) (lo:Nat) (nm:Nat->Option Nat) (i:Nat):Prop:=∃o,ops[i]? = Y o/\
 ((dE ops fr o=false/\nm i=ω/\∀d,o.dst=Y d->d<fr.n->fr.get d=Y undef)\/
  (dE ops fr o=true/\bT o=true/\∃frI:Fr,(∀t∈o.looksAt ops,frI.get t=fr.get t)/\
   ((∃v,aI P o = .val/\nm i=ω/\rp P o frI h=Y v/\∀d,o.dst=Y d->d<fr.n->fr.get d=Y v)\/
   (∃ob f n,aI P o = .lay/\nm i=Y n/\AU P o frI=Y (ob,f)/\σ n=ω/\lo<=n/\n<h.next/\h.get n=Y ob/\∀d,o.dst=Y d->d<fr.n->fr.get d=Y (f n)))))
def PX (ops:Array Oper) (T:List Nat) (listed:Array Bool) (a:Act) (t:Nat):Prop:=t<a.tmps.size/\∃i∈T,¬gf listed i/\∃o,ops[i]? = Y o/\o.dst=Y t
structure rG (P:Program) (ops:Array Oper) (σ0:aH) (h0:AH) (w0:World) (T rest:List Nat) (l:List (Nat×List Nat)) (fr:Fr) (h:AH) (listed:Array Bool) (a:Act) (w:World) (σ:aH) (nm:Nat->Option Nat):Prop where
 plan:rD P ops T rest l
 good:rF P ops T
 part:∀i,i<ops.size->i∈T\/i∈rest
 disj:∀i∈rest,i ∉ T
 lone:lone P ops T (l.map (·.1))=true
 sub:∀i,gf listed i->i∈T
 closed:∀i o,gf listed i->ops[i]? = Y o->∀x∈bX o,gf listed x
 quiet:∀i∈T,¬gf listed i->∀o,ops[i]? = Y o->bZ P o=false
 st:St P σ0 h0 w0 σ h w
 ar:Cz σ fr a (PX ops T listed a)
 deliv:∀i∈T,¬gf listed i->GM P ops σ h fr h0.next nm i
 inj:∀i∈T,¬gf listed i->∀j∈T,¬gf listed j->∀n,nm i=Y n->nm j=Y n->i=j
 size:listed.size=ops.size
theorem zF {ops:Array Oper}{fr:Fr}{o:Oper}:zB ops fr o [] = []:=by unfold zB;cases (dE ops fr o && !(jZ o.op)) <;>rfl
theorem ku {ops:Array Oper}{o:Oper}{fr fr1:Fr}(h:∀t∈o.looksAt ops,fr1.get t=fr.get t):dE ops fr1 o=dE ops fr o:=by
 unfold dE;cases hg:o.guard with
 | none=>rfl
 | some gw=>
  obtain⟨j,b⟩:=gw;simp only;cases hj:ops[j]? with
  | none=>rfl
  | some g=>
   simp only;cases hd:g.dst with
   | none=>rfl
   | some d=>
    simp only;rw[h d (List.mem_append_right _ (by rw[hg];simp[hj,hd]))]
theorem mY {ops:Array Oper}{T:List Nat}{j:Nat}{l:List Nat}(h:lone P ops T (j :: l)=true):km P ops T j=true/\lone P ops (j :: T) l=true:=by
 simpa[lone]using h
theorem fS {j x:Nat}{l:List Nat}:x∈dG j l↔x∈l/\x≠j:=by
 unfold dG;rw[List.mem_filter];constructor
 .rintro⟨h1,h2⟩;exact⟨h1,λe=>by subst e;simp[Nat.beq_refl]at h2⟩
 .rintro⟨h1,h2⟩;refine⟨h1,?_⟩;cases hb:Nat.beq x j with
  | false=>rfl
  | true=>exact absurd (aq hb) h2
theorem oH {ops:Array Oper}{j:Nat}{o:Oper}(h:ops[j]? = Y o):j<ops.size:=(Array.getElem?_eq_some_iff.1 h).1
theorem St.addName {σ0:aH}{h0 h:AH}{w0 w:World}(s:St P σ0 h0 w0 σ h w) (ob:AO):St P σ0 h0 w0 σ (h.new ob) w:=by
 have hnx:(h.new ob).next=h.next+1:=rfl;have ne:∀n b,σ n=Y b->n≠h.next:=λn b hb=>by have:=(s.hr.lt n b hb).1;omega
 refine⟨s.ext,⟨λn b x=>by have:=s.hr.lt n b x;rw[hnx];exact⟨U,this.2⟩,λn b o x y=>?_,λn m b o p x1 x2 y1 y2=>?_,λn hn=>?_,s.hr.inv.step (λ_ _ _=>rfl) (λn b o x y=>.inl ⟨n,x,by rw[AH.get_new_ne h ob (Ne.symm (ne n b x))]at y;exact y⟩)⟩,s.os,s.tape,s.output,s.size,by rw[hnx];have:=s.next;omega,s.new,λn hn x=>?_,s.frame,λn b c e x y=>?_⟩
 .rw[AH.get_new_ne h ob (Ne.symm (ne n b x))]at y;exact s.hr.obj n b o x y
 .rw[AH.get_new_ne h ob (Ne.symm (ne n b x1))]at y1;rw[AH.get_new_ne h ob (Ne.symm (ne m b x2))]at y2;exact s.hr.inj n m b o p x1 x2 y1 y2
 .rw[hnx]at hn;rw[AH.get_new_ne h ob U];exact s.hr.none n U
 .have:n≠h.next:=by have:=s.next;omega
  rw[AH.get_new_ne h ob (Ne.symm this)];exact s.keep n hn x
 .obtain⟨p,q⟩:=s.ro n b c e x y;have:n≠h.next:=by have:=s.hr.lt n b (s.ext n b x).1;omega
  exact⟨by rw[AH.get_new_ne h ob (Ne.symm this)];exact p,q⟩
theorem St.deliver {σ0:aH}{h0 h:AH}{w0 w w':World}(s:St P σ0 h0 w0 σ h w){n:Nat}{ob:AO}{ob':Obj}{E:Nat}(h1:σ n=ω) (h2:h0.next<=n) (h3:n<h.next) (h4:h.get n=Y ob)
  (hl:Bi w ob' w') (ho:∀σ':aH,aH.le σ σ'->σ'.e w.heap.size=E->OR P σ' w.heap.size ob ob'):St P σ0 h0 w0 (σ.put n w.heap.size E) h w':=by
 obtain⟨e1,e2,e3,e4⟩:=hl;have hle:aH.le σ (σ.put n w.heap.size E):=λm b hb=>by
  have:m≠n:=λe=>by rw[e,h1]at hb;cases hb
  have hlt:=(s.hr.lt m b hb).2;exact⟨by rw[aH.put_ne σ _ _ this];exact hb,aH.put_e_ne σ _ _ U⟩
 have cases_:∀m b,(σ.put n w.heap.size E) m=Y b->(m=n/\b=w.heap.size)\/(m≠n/\σ m=Y b):=λm b hb=>by
  by_cases e:m=n
  .subst e;rw[aH.put_same]at hb;cases hb;exact .inl ⟨rfl,rfl⟩
  .rw[aH.put_ne σ _ _ e]at hb;exact .inr ⟨e,hb⟩
 have old:∀b,b<w.heap.size->w'.heap[b]? = w.heap[b]?:=λb hb=>by rw[e1,Array.getElem?_push];simp[Nat.ne_of_lt hb]
 have hsz:w'.heap.size=w.heap.size+1:=by rw[e1];simp
 refine⟨aH.le_trans s.ext hle,⟨λm b x=>?_,λm b o x y=>?_,λm k b o p x1 x2 y1 y2=>?_,s.hr.none,s.hr.inv.step (λb hb _=>old b hb) (λm b o x y=>by
  rcases cases_ m b x with⟨rfl,rfl⟩ | ⟨_,z⟩
  .exact .inr (.inl (Nat.le_refl _))
  .exact .inl ⟨m,z,y⟩)⟩,e2.trans s.os,e3.trans s.tape,⟨e4.1.trans s.output.1,Nat.le_trans s.output.2 e4.2⟩,by have:=s.size;omega,s.next,λm b x y=>?_,s.keep,λb hb hf=>?_,λm b c e x y=>?_⟩
 .rcases cases_ m b x with⟨rfl,rfl⟩ | ⟨_,x⟩
  .exact⟨h3,U⟩
  .have:=s.hr.lt m b x;exact⟨this.1,U⟩
 .rcases cases_ m b x with⟨rfl,rfl⟩ | ⟨_,x⟩
  .rw[h4]at y;cases y;exact⟨ob',by rw[e1];simp,ho _ hle (aH.put_e _ _ _ _)⟩
  .obtain⟨q,q1,q2⟩:=s.hr.obj m b o x y;exact⟨q,by rw[old b (s.hr.lt m b x).2];exact q1,q2.mono hle (hle m b x).2⟩
 .rcases cases_ m b x1 with⟨rfl,rfl⟩ | ⟨_,z1⟩
  .rcases cases_ k _ x2 with⟨rfl,_⟩ | ⟨_,z2⟩
   .rfl
   .exact absurd (s.hr.lt k _ z2).2 (Nat.lt_irrefl _)
  .rcases cases_ k b x2 with⟨rfl,rfl⟩ | ⟨_,z2⟩
   .exact absurd (s.hr.lt m _ z1).2 (Nat.lt_irrefl _)
   .exact s.hr.inj m k b o p z1 z2 y1 y2
 .rcases cases_ m b x with⟨rfl,rfl⟩ | ⟨_,x⟩
  .exact⟨h2,.inl s.size⟩
  .exact s.new m b x y
 .have:=s.size;rw[old b U];exact s.frame b hb hf
 .obtain⟨p,q⟩:=s.ro m b c e x y;exact⟨p,by rw[old b (s.hr.lt m b (s.ext m b x).1).2];exact q⟩
theorem Cz.give {fr:Fr}{a:Act}{X X':Nat->Prop}{d:Option Tmp}{v':Value}(h:Cz σ fr a X) (hd:∀x,d=Y x->x<fr.n->VR σ (cv (fr.get x)) v')
  (hX:∀t,¬X' t->¬X t\/(d=Y t/\t<a.tmps.size)):Cz σ fr (a.put d v') X':=by
 refine⟨by rw[eW];exact h.n,by rw[je];exact h.d,λt ht=>?_⟩;unfold TR;rw[oG];by_cases hc:d=Y t/\t<a.tmps.size
 .rw[if_pos hc];exact hd t hc.1 (by rw[h.n];exact hc.2)
 .rw[if_neg hc];rcases hX t ht with y | y
  .exact h.t t y
  .exact absurd y hc
theorem pz {listed:Array Bool}{i j:Nat}(hi:i<listed.size):gf (listed.setIfInBounds i true) j↔j=i\/gf listed j:=by
 unfold gf;by_cases e:j=i
 .subst e;simp[hi]
 .rw[getD_set_ne false (Ne.symm e)];simp[e]
theorem sI {o:Oper}{L:Nat->Prop}:(∀e∈o.after,Region.binds .any e=true->L e.on)↔∀x∈bX o,L x:=by
 unfold bX;constructor
 .intro h x hx;obtain⟨e,he,rfl⟩:=List.mem_map.1 hx;obtain⟨h1,h2⟩:=List.mem_filter.1 he;exact h e (by simpa using h1) h2
 .intro h e he hb;exact h e.on (List.mem_map.2 ⟨e,List.mem_filter.2 ⟨by simpa using he,hb⟩,rfl⟩)
theorem mZ {ops:Array Oper}{listed:Array Bool}(hs:listed.size=ops.size){i:Nat}:i∈Region.ready .any ops listed↔¬gf listed i/\∃o,ops[i]? = Y o/\∀x∈bX o,gf listed x:=by
 rw[mem_ready];constructor
 .rintro⟨h1,o,ho,h2⟩;have hlt:i<listed.size:=by rw[hs];exact oH ho
  refine⟨?_,o,ho,sI.1 h2⟩;unfold gf;simp[hlt]at h1⊢;exact h1
 .rintro⟨h1,o,ho,h2⟩;have hlt:i<listed.size:=by rw[hs];exact oH ho
  refine⟨?_,o,ho,sI.2 h2⟩;unfold gf at h1;simp[hlt]at h1⊢;exact h1
section
variable {ops:Array Oper}{σ0:aH}{h0:AH}{w0:World}{T rest:List Nat}{l:List (Nat×List Nat)}{fr:Fr}{h:AH}{listed:Array Bool}{a:Act}{nm:Nat->Option Nat}
theorem rG.tr (I:rG P ops σ0 h0 w0 T rest l fr h listed a w σ nm){i:Nat}{o:Oper}(hi:i∈T) (hl:¬gf listed i) (ho:ops[i]? = Y o) (hw:∀x∈bX o,gf listed x):∀t∈o.looksAt ops,TR σ fr a t:=by
 intro t ht;refine I.ar.t t λhX=>?_;obtain⟨_,x,hx,hlx,ox,hox,hd⟩:=hX;have qo:=I.quiet i hi hl o ho;have qx:=I.quiet x hx hlx ox hox;by_cases e:x=i
 .subst e;rw[ho]at hox;cases hox;exact I.good.self hi ho qo t hd ht
 .rcases(I.good.quiet2 hx hi hox ho qx qo e).1 with y | y
  .exact y t hd ht
  .exact hlx (hw x y)
theorem rG.give (I:rG P ops σ0 h0 w0 T rest l fr h listed a w σ nm){i:Nat}{o:Oper}(hi:i∈T) (hl:¬gf listed i) (ho:ops[i]? = Y o) (hw:∀x∈bX o,gf listed x)
  {K:Act->World->Prop}{Q:Exit->Act->World->Prop}
  (hK:∀a' w' σ',rG P ops σ0 h0 w0 T rest l fr h (listed.setIfInBounds i true) a' w' σ' nm->K a' w'):wpOp P ops Q i K a w:=by
 have hT:=I.tr hi hl ho hw;have hilt:i<listed.size:=by rw[I.size];exact oH ho
 have hset:∀j,gf (listed.setIfInBounds i true) j↔j=i\/gf listed j:=λj=>pz hilt;have hwant:=px (ops:=ops) (o:=o) hT;have hX:∀v' t,¬PX ops T (listed.setIfInBounds i true) (a.put o.dst v') t->¬PX ops T listed a t\/(o.dst=Y t/\t<a.tmps.size):=by
  intro v' t ht;by_cases hc:o.dst=Y t/\t<a.tmps.size
  .exact .inr hc
  .refine .inl λhx=>?_;obtain⟨hlt,x,hxT,hxl,ox,hox,hd⟩:=hx;refine ht ⟨by rw[eW];exact hlt,x,hxT,λhc2=>?_,ox,hox,hd⟩;rcases(hset x).1 hc2 with e | e
   .subst e;rw[ho]at hox;cases hox;exact hc ⟨hd,hlt⟩
   .exact hxl e
 have build:∀(v':Value) (w':World) (σ':aH),St P σ0 h0 w0 σ' h w'->Cz σ' fr a (PX ops T listed a)->(∀d,o.dst=Y d->d<fr.n->VR σ' (cv (fr.get d)) v')->
   (∀j∈T,¬gf listed j->j≠i->GM P ops σ' h fr h0.next nm j)->rG P ops σ0 h0 w0 T rest l fr h (listed.setIfInBounds i true) (a.put o.dst v') w' σ' nm:=by
  intro v' w' σ' hst har hv hdel;refine⟨I.plan,I.good,I.part,I.disj,I.lone,λj hj=>?_,λj oj hj hoj x hx=>?_,λj hj hlj=>?_,hst,har.give hv (hX v'),λj hj hlj=>?_,λj hj hlj k hk hlk n x y=>?_,by simp[I.size]⟩
  .rcases(hset j).1 hj with e | e
   .subst e;exact hi
   .exact I.sub j e
  .rcases(hset j).1 hj with e | e
   .subst e;rw[ho]at hoj;cases hoj;exact(hset x).2 (.inr (hw x hx))
   .exact(hset x).2 (.inr (I.closed j oj e hoj x hx))
  .exact I.quiet j hj λe=>hlj ((hset j).2 (.inr e))
  .exact hdel j hj (λe=>hlj ((hset j).2 (.inr e))) (λe=>hlj ((hset j).2 (.inl e)))
  .exact I.inj j hj (λe=>hlj ((hset j).2 (.inr e))) k hk (λe=>hlk ((hset k).2 (.inr e))) n x y
 obtain⟨o',ho',hcase⟩:=I.deliv i hi hl;rw[ho]at ho';cases ho';unfold wpOp;simp only[ho];rcases hcase with⟨hwn,hnm,hd⟩ | ⟨hwn,hc,frI,hfrI,hcase⟩
 .rw[hwn]at hwant;simp only[hwant,Bool.false_eq_true,if_false];exact hK _ _ σ (build undef w σ I.st I.ar (λd h1 h2=>by rw[hd d h1 h2];exact cB σ) (λj hj hlj _=>I.deliv j hj hlj))
 .rw[hwn]at hwant;simp only[hwant,if_true];have hE:AZ σ frI a.eval o:=um (ops:=ops) hc (λt ht=>by unfold TR;rw[hfrI t ht];exact hT t ht);refine .inl ?_;unfold Oper.wp;rcases hcase with⟨v,hk,hnm,hev,hd⟩ | ⟨ob,f,n,hk,hnm,hev,h1,h2,h3,h4,hd⟩
  .obtain⟨v',r1,r2⟩:=su I.st.hr hE hev;rw[r1];exact hK _ _ σ (build v' w σ I.st I.ar (λd h1 h2=>by rw[hd d h1 h2];exact r2) (λj hj hlj _=>I.deliv j hj hlj))
  .obtain⟨v',ob',w',E,r1,r2,r3,r4⟩:=sy (w:=w) hE hev;rw[r1];have hst:=I.st.deliver h1 h2 h3 h4 r2 r3;have hle:aH.le σ (σ.put n w.heap.size E):=λm b hb=>by
    have:m≠n:=λe=>by rw[e,h1]at hb;cases hb
    have hlt:=(I.st.hr.lt m b hb).2;exact⟨by rw[aH.put_ne σ _ _ this];exact hb,aH.put_e_ne σ _ _ U⟩
   refine hK _ _ _ (build v' w' _ hst (I.ar.mono hle) (λd x y=>by rw[hd d x y];exact r4 _ _ (aH.put_same _ _ _ _) (aH.put_e _ _ _ _)) (λj hj hlj hne=>?_));obtain⟨oj,hoj,hcj⟩:=I.deliv j hj hlj;refine⟨oj,hoj,?_⟩;rcases hcj with hcj | ⟨c1,c2,frJ,c3,c4⟩
   .exact .inl hcj
   .refine .inr ⟨c1,c2,frJ,c3,?_⟩;rcases c4 with c4 | ⟨ob2,f2,n2,d1,d2,d3,d4,d5⟩
    .exact .inl c4
    .refine .inr ⟨ob2,f2,n2,d1,d2,d3,?_,d5⟩;have hnn:n2≠n:=λe=>hne (I.inj j hj hlj i hi hl n (by rw[<-e];exact d2) hnm);rw[aH.put_ne σ _ _ hnn];exact d4
theorem rG.step (I:rG P ops σ0 h0 w0 T rest l fr h listed a w σ nm){j:Nat}{again:List Nat}{l':List (Nat×List Nat)}{o:Oper}(hl:l=(j,again) :: l') (hj:j∈rest) (ho:ops[j]? = Y o)
  (hwL:∀x∈bX o,gf listed x) (hloud:bZ P o=true) (hag:again=T.filter λx=>!(mem x (EZ ops 12 j)) && sg P ops x) (hplan:rD P ops (j :: T) (dG j rest) l')
  {fr1:Fr}{h1:AH}{v v':Value}{w':World}{σ':aH}(hfr:fr1=dF fr o.dst v) (hst:St P σ h w σ' h1 w') (hv:VR σ' v v') (hsame:aV (cn P ops fr1 h1) (zB ops fr o again)=true) (hstay:(dE ops fr o && !(jZ o.op))=false->h1=h) :
  rG P ops σ0 h0 w0 (j :: T) (dG j rest) l' fr1 h1 (listed.setIfInBounds j true) (a.put o.dst v') w' σ' nm:=by
 have hjlt:j<listed.size:=by rw[I.size];exact oH ho
 have hset:∀i,gf (listed.setIfInBounds j true) i↔i=j\/gf listed i:=λi=>pz hjlt;have hjT:j ∉ T:=I.disj j hj;have hlone:=I.lone;rw[hl]at hlone;obtain⟨hl1,hl2⟩:=mY (l:=l'.map (·.1)) hlone;have pend:∀i∈j :: T,¬gf (listed.setIfInBounds j true) i->i∈T/\¬gf listed i:=λi hi hli=>by
  have h1:i≠j:=λe=>hli ((hset i).2 (.inl e));have h2:¬gf listed i:=λe=>hli ((hset i).2 (.inr e));cases hi with
  | head=>exact absurd rfl h1
  | tail _ hm=>exact⟨hm,h2⟩
 refine⟨hplan,.cons I.good ho (λx hx=>I.sub x (hwL x hx)) hl1 hjT,λi hi=>?_,λi hi=>?_,hl2,λi hi=>?_,λi oi hi hoi x hx=>?_,λi hi hli oi hoi=>?_,I.st.trans hst,?_,λi hi hli=>?_,λi hi hli k hk hlk n x y=>?_,by simp[I.size]⟩
 .by_cases e:i=j
  .subst e;exact .inl (by simp)
  .rcases I.part i hi with y | y
   .exact .inl (List.mem_cons_of_mem _ y)
   .exact .inr (fS.2 ⟨y,e⟩)
 .obtain⟨x,y⟩:=fS.1 hi;simp only[List.mem_cons,not_or];exact⟨y,I.disj i x⟩
 .rcases(hset i).1 hi with e | e
  .subst e;simp
  .exact List.mem_cons_of_mem _ (I.sub i e)
 .rcases(hset i).1 hi with e | e
  .subst e;rw[ho]at hoi;cases hoi;exact(hset x).2 (.inr (hwL x hx))
  .exact(hset x).2 (.inr (I.closed i oi e hoi x hx))
 .obtain⟨p1,p2⟩:=pend i hi hli;exact I.quiet i p1 p2 oi hoi
 .subst hfr;have:=(I.ar.mono hst.ext).put (d:=o.dst) hv;refine⟨this.n,this.d,λt ht=>this.t t λhx=>ht ?_⟩;obtain⟨q1,i,q2,q3,oi,q4,q5⟩:=hx;refine⟨by rw[eW];exact q1,i,List.mem_cons_of_mem _ q2,λe=>?_,oi,q4,q5⟩;rcases(hset i).1 e with e | e
  .subst e;exact hjT q2
  .exact q3 e
 .obtain⟨p1,p2⟩:=pend i hi hli;obtain⟨x,hx,hcase⟩:=I.deliv i p1 p2;have qx:=I.quiet i p1 p2 x hx;have hp:=lF ho hx p1 hl1;have hapart:∀d,o.dst=Y d->d ∉ x.looksAt ops/\x.dst≠Y d:=by
   rcases hp.ox with y | y | ⟨y,_⟩
   .rw[qx]at y;cases y
   .exact y
   .exact absurd (hwL i y) p2
  have hget:∀t∈x.looksAt ops,fr1.get t=fr.get t:=λt ht=>by
   subst hfr;exact fm λe=>(hapart t e).1 ht
  have hgetd:∀d,x.dst=Y d->fr1.get d=fr.get d:=λd hd=>by
   subst hfr;exact fm λe=>(hapart d e).2 hd
  have hn:fr1.n=fr.n:=by subst hfr;exact qa
  have hwant:=ku hget;refine⟨x,hx,?_⟩;rcases hcase with⟨c1,c2,c3⟩ | ⟨c1,c2,frI,c3,c4⟩
  .exact .inl ⟨by rw[hwant];exact c1,c2,λd hd hlt=>by rw[hgetd d hd];exact c3 d hd (by rw[<-hn];exact hlt)⟩
  .refine .inr ⟨by rw[hwant];exact c1,c2,?_⟩;rcases c4 with⟨u,d1,d2,d3,d4⟩ | ⟨ob,f,n,d1,d2,d3,d4,d5,d6,d7,d8⟩
   .cases hlk:(looks P x.op && (dE ops fr o && !(jZ o.op))) with
    | false=>
     have hev:rp P x frI h1=rp P x frI h:=by
      rw[Bool.and_eq_false_iff]at hlk;rcases hlk with hlk | hlk
      .exact Bn hlk frI h1 h
      .rw[hstay hlk]
     refine⟨frI,λt ht=>by rw[hget t ht];exact c3 t ht,.inl ⟨u,d1,d2,by rw[hev];exact d3,λd hd hlt=>by rw[hgetd d hd];exact d4 d hd (by rw[<-hn];exact hlt)⟩⟩
    | true=>
     have hanc:mem i (EZ ops 12 j)=false:=by
      cases hm:mem i (EZ ops 12 j) with
      | false=>rfl
      | true=>exact absurd (vY (L:=gf listed) I.closed 12 j ho hwL i (jA.1 hm)) p2
     have hval:sg P ops i=true:=by unfold sg;rw[hx];simp[GK,d1]
     have hin:i∈again:=by rw[hag];exact List.mem_filter.2 ⟨p1,by rw[hanc,hval];rfl⟩
     obtain⟨hlk,hlk2⟩:=Bool.and_eq_true_iff.mp hlk;unfold zB at hsame;rw[hlk2]at hsame;have hs:=aY hsame i hin;unfold cn at hs;rw[hx]at hs;simp only[hlk,cond_true,hwant,c1]at hs;unfold C8 at hs
     split at hs
     .rename_i v2 hev;refine⟨fr1,λ_ _=>rfl,.inl ⟨v2,d1,d2,hev,λd hd hlt=>?_⟩⟩;rw[hd]at hs;simp only at hs
      split at hs
      .rename_i u2 hu2;rw[hu2,ge 6 u2 v2 hs]
      .cases hs
     .cases hs
   .refine⟨frI,λt ht=>by rw[hget t ht];exact c3 t ht,.inr ⟨ob,f,n,d1,d2,d3,?_,d5,Nat.lt_of_lt_of_le d6 hst.next,by rw[hst.keep n d6 d4];exact d7,λd hd hlt=>by rw[hgetd d hd];exact d8 d hd (by rw[<-hn];exact hlt)⟩⟩;cases hq:σ' n with
    | none=>rfl
    | some b=>exact absurd (hst.new n b hq d4).1 U
 .obtain⟨p1,p2⟩:=pend i hi hli;obtain⟨p3,p4⟩:=pend k hk hlk;exact I.inj i p1 p2 k p3 p4 n x y
end
end
end Eva
end
section
open Go Go.RowKit
namespace Eva
section
variable {P:Program}{σ:aH}{w:World}
section
variable {ops:Array Oper}{σ0:aH}{h0:AH}{w0:World}{listed:Array Bool}{a:Act}
theorem rG.take {T rest:List Nat}{l l':List (Nat×List Nat)}{fr:Fr}{h:AH}{nm:Nat->Option Nat}(I:rG P ops σ0 h0 w0 T rest l fr h listed a w σ nm){call:mL}{j:Nat}{o:Oper}(hl:l=(j,[]) :: l')
  (hj:j∈rest) (ho:ops[j]? = Y o) (hw:∀x∈bX o,x∈T) (hq:bZ P o=false) (hplan:rD P ops (j :: T) (dG j rest) l'){fr1:Fr}{h1:AH}(hop:iW P call ops o fr h=Y (fr1,h1)) :
  ∃nm',rG P ops σ0 h0 w0 (j :: T) (dG j rest) l' fr1 h1 listed a w σ nm':=by
 have hjT:j ∉ T:=I.disj j hj;have hjL:¬gf listed j:=λe=>hjT (I.sub j e);have hlone:=I.lone;rw[hl]at hlone;obtain⟨hl1,hl2⟩:=mY (l:=l'.map (·.1)) hlone;have hself:=zE ho hl1 hq;have hcase:∃v nmj,fr1=dF fr o.dst v/\St P σ0 h0 w0 σ h1 w/\Fu h h1/\h.next<=h1.next/\(nmj=ω\/nmj=Y h.next)/\
   ((dE ops fr o=false/\nmj=ω/\v=undef)\/
    (dE ops fr o=true/\bT o=true/\((aI P o = .val/\nmj=ω/\rp P o fr h1=Y v)\/
     (∃ob f n,aI P o = .lay/\nmj=Y n/\AU P o fr=Y (ob,f)/\σ n=ω/\h0.next<=n/\n<h1.next/\h1.get n=Y ob/\v=f n)))):=by
  unfold iW at hop;cases hwant:dE ops fr o with
  | false=>
   rw[hwant]at hop;simp only[cond_false]at hop;cases hop;exact⟨undef,ω,rfl,I.st,λ_ _ x=>x,Nat.le_refl _,.inl rfl,.inl ⟨rfl,rfl,rfl⟩⟩
  | true=>
   rw[hwant]at hop;simp only[cond_true]at hop;obtain⟨hc,h2⟩:=af hop;cases hk:aI P o with
   | loud=>unfold bZ at hq;rw[hk]at hq;cases hq
   | val=>
    rw[hk]at h2;have h3:C6 fr h o.dst (rp P o fr h)=Y (fr1,h1):=h2;cases hv:rp P o fr h with
    | none=>rw[hv]at h3;cases h3
    | some v=>
     rw[hv]at h3;cases h3;exact⟨v,ω,rfl,I.st,λ_ _ x=>x,Nat.le_refl _,.inl rfl,.inr ⟨rfl,hc,.inl ⟨rfl,rfl,hv⟩⟩⟩
   | lay=>
    rw[hk]at h2;have h3:Fm fr h o.dst (AU P o fr)=Y (fr1,h1):=h2;cases hv:AU P o fr with
    | none=>rw[hv]at h3;cases h3
    | some bf=>
     obtain⟨ob,f⟩:=bf;rw[hv]at h3;cases h3;have hnx:(h.new ob).next=h.next+1:=rfl;refine⟨f h.next,Y h.next,rfl,I.st.addName ob,λm x hm=>?_,by rw[hnx];omega,.inr rfl,.inr ⟨rfl,hc,.inr ⟨ob,f,h.next,rfl,rfl,rfl,?_,I.st.next,by rw[hnx];omega,AH.get_new h ob,rfl⟩⟩⟩
     .have:m≠h.next:=λe=>by subst e;rw[I.st.hr.none _ (Nat.le_refl _)]at hm;cases hm
      rw[AH.get_new_ne h ob (Ne.symm this)];exact hm
     .cases hq2:σ h.next with
      | none=>rfl
      | some b=>exact absurd (I.st.hr.lt _ _ hq2).1 (Nat.lt_irrefl _)
 obtain⟨v,nmj,hfr,hst,hle,hnext,hnmj,hcase⟩:=hcase;have hn:fr1.n=fr.n:=by subst hfr;exact qa
 have nmlt:∀i∈T,¬gf listed i->∀n,nm i=Y n->n<h.next:=λi hi hli n hnm=>by
  obtain⟨x,hx,hc⟩:=I.deliv i hi hli;rcases hc with⟨_,c2,_⟩ | ⟨_,_,_,_,c4⟩
  .rw[hnm]at c2;cases c2
  .rcases c4 with⟨_,_,d2,_⟩ | ⟨_,_,n2,_,d2,_,_,_,d6,_⟩
   .rw[hnm]at d2;cases d2
   .rw[hnm]at d2;cases d2;exact d6
 refine⟨λi=>if i=j then nmj else nm i,hplan,.cons I.good ho hw hl1 hjT,λi hi=>?_,λi hi=>?_,hl2,λi hi=>List.mem_cons_of_mem _ (I.sub i hi),I.closed,λi hi hli oi hoi=>?_,hst,?_,λi hi hli=>?_,λi hi hli k hk hlk n x y=>?_,I.size⟩
 .by_cases e:i=j
  .subst e;exact .inl (by simp)
  .rcases I.part i hi with y | y
   .exact .inl (List.mem_cons_of_mem _ y)
   .exact .inr (fS.2 ⟨y,e⟩)
 .obtain⟨x,y⟩:=fS.1 hi;simp only[List.mem_cons,not_or];exact⟨y,I.disj i x⟩
 .cases hi with
  | head=>rw[ho]at hoi;cases hoi;exact hq
  | tail _ hm=>exact I.quiet i hm hli oi hoi
 .refine⟨by rw[hn];exact I.ar.n,I.ar.d,λt ht=>?_⟩;have hnd:¬(o.dst=Y t/\t<a.tmps.size):=λhc=>ht ⟨hc.2,j,by simp,hjL,o,ho,hc.1⟩;have hold:¬PX ops T listed a t:=λ⟨q1,i,q2,q3⟩=>ht ⟨q1,i,List.mem_cons_of_mem _ q2,q3⟩;have hg:fr1.get t=fr.get t:=by
   subst hfr;by_cases e:o.dst=Y t
   .rw[e];simp only[dF];rw[oF (t:=t) (by rw[I.ar.n];exact λhlt=>hnd ⟨e,hlt⟩)]
   .exact fm e
  unfold TR;rw[hg];exact I.ar.t t hold
 .cases hi with
  | head=>
   have hlk:∀t∈o.looksAt ops,fr1.get t=fr.get t:=λt ht=>by
    subst hfr;exact fm λe=>hself t e ht
   have hwant:=ku hlk;have hgd:∀d,o.dst=Y d->d<fr1.n->fr1.get d=Y v:=λd hd hlt=>by
    subst hfr;rw[qa]at hlt;rw[hd];exact ie hlt
   refine⟨o,ho,?_⟩;rcases hcase with⟨c1,c2,rfl⟩ | ⟨c1,c2,c3⟩
   .exact .inl ⟨by rw[hwant];exact c1,by simp[c2],hgd⟩
   .refine .inr ⟨by rw[hwant];exact c1,c2,fr,λt ht=>(hlk t ht).symm,?_⟩;rcases c3 with⟨d1,d2,d3⟩ | ⟨ob,f,n,d1,d2,d3,d4,d5,d6,d7,d8⟩
    .exact .inl ⟨v,d1,by simp[d2],d3,hgd⟩
    .exact .inr ⟨ob,f,n,d1,by simp[d2],d3,d4,d5,d6,d7,λd x y=>by rw[hgd d x y,d8]⟩
  | tail _ hm=>
   have hne:i≠j:=λe=>hjT (e ▸ hm);obtain⟨x,hx,hc⟩:=I.deliv i hm hli;have qx:=I.quiet i hm hli x hx;have hp:=lF ho hx hm hl1;have hapart:∀d,o.dst=Y d->d ∉ x.looksAt ops/\x.dst≠Y d:=by
    rcases hp.ox with y | y | ⟨_,y⟩
    .rw[qx]at y;cases y
    .exact y
    .rw[hq]at y;cases y
   have hget:∀t∈x.looksAt ops,fr1.get t=fr.get t:=λt ht=>by
    subst hfr;exact fm λe=>(hapart t e).1 ht
   have hgetd:∀d,x.dst=Y d->fr1.get d=fr.get d:=λd hd=>by
    subst hfr;exact fm λe=>(hapart d e).2 hd
   have hwant:=ku hget;refine⟨x,hx,?_⟩;rcases hc with⟨c1,c2,c3⟩ | ⟨c1,c2,frI,c3,c4⟩
   .exact .inl ⟨by rw[hwant];exact c1,by simp[hne,c2],λd hd hlt=>by rw[hgetd d hd];exact c3 d hd (by rw[<-hn];exact hlt)⟩
   .refine .inr ⟨by rw[hwant];exact c1,c2,frI,λt ht=>by rw[hget t ht];exact c3 t ht,?_⟩;rcases c4 with⟨u,d1,d2,d3,d4⟩ | ⟨ob,f,n,d1,d2,d3,d4,d5,d6,d7,d8⟩
    .exact .inl ⟨u,d1,by simp[hne,d2],Hn hle d3,λd hd hlt=>by rw[hgetd d hd];exact d4 d hd (by rw[<-hn];exact hlt)⟩
    .exact .inr ⟨ob,f,n,d1,by simp[hne,d2],d3,d4,d5,U,hle n ob d7,λd hd hlt=>by rw[hgetd d hd];exact d8 d hd (by rw[<-hn];exact hlt)⟩
 .have key:∀i∈j :: T,¬gf listed i->∀n,(if i=j then nmj else nm i)=Y n->(i=j/\n=h.next)\/(i≠j/\i∈T/\nm i=Y n/\n<h.next):=λi hi hli n hx=>by
   by_cases e:i=j
   .rw[if_pos e]at hx;rcases hnmj with y | y
    .rw[y]at hx;cases hx
    .rw[y]at hx;cases hx;exact .inl ⟨e,rfl⟩
   .rw[if_neg e]at hx;have hm:i∈T:=by cases hi with | head=>exact absurd rfl e | tail _ hm=>exact hm
    exact .inr ⟨e,hm,hx,nmlt i hm hli n hx⟩
  rcases key i hi hli n x with⟨e1,e2⟩ | ⟨_,e2,e3,e4⟩
  .rcases key k hk hlk n y with⟨g1,_⟩ | ⟨_,_,_,g4⟩
   .rw[e1,g1]
   .omega
  .rcases key k hk hlk n y with⟨_,g2⟩ | ⟨_,g2,g3,_⟩
   .omega
   .exact I.inj i e2 hli k g2 hlk n e3 g3
theorem rG.go_on {call:mL}{E:FH}:∀(l:List (Nat×List Nat)){T rest:List Nat}{fr:Fr}{h:AH}{nm:Nat->Option Nat},rG P ops σ0 h0 w0 T rest l fr h listed a w σ nm->drawn P call ops l fr h=Y E->
  ∃T' rest' l' fr' h' nm',rG P ops σ0 h0 w0 T' rest' l' fr' h' listed a w σ nm'/\drawn P call ops l' fr' h' = Y E/\
   ((l' = []/\rest' = [])\/∃j again l'' o,l' = (j,again) :: l''/\j∈rest'/\ops[j]? = Y o/\(∀x∈bX o,x∈T')/\bZ P o=true/\(∀x∈rest',x≠j->ready ops T' x=false)/\
    again=(T'.filter λx=>!(mem x (EZ ops 12 j)) && sg P ops x)/\rD P ops (j :: T') (dG j rest') l'')
 | [],T,rest,fr,h,nm,I,hd=>by
  have hp:=I.plan;have hr:rest = []:=by cases hp;rfl
  exact⟨T,rest,[],fr,h,nm,I,hd,.inl ⟨rfl,hr⟩⟩
 | (j,again) :: l,T,rest,fr,h,nm,I,hd=>by
  have hp:=I.plan;cases hp with
  | quiet hj ho hw hq hp2=>
   rename_i o;have hd':cw P call ops j [] (drawn P call ops l) fr h=Y E:=hd;unfold cw at hd';rw[ho]at hd';simp only at hd';cases hop:iW P call ops o fr h with
   | none=>rw[hop]at hd';cases hd'
   | some fh=>
    obtain⟨fr1,h1⟩:=fh;rw[hop,zF]at hd';have hd2:drawn P call ops l fr1 h1=Y E:=hd';obtain⟨nm',I'⟩:=I.take rfl hj ho hw hq hp2 hop;exact rG.go_on l I' hd2
  | loud hj ho hw hq hall hp2=>
   rename_i o;exact⟨T,rest,_,fr,h,nm,I,hd,.inr ⟨j,_,l,o,rfl,hj,ho,hw,hq,hall,rfl,hp2⟩⟩
theorem Di {i:Nat}{p q:Nat->Bool}(hq:∀x,q x=true->p x=true) (hi:p i=true) (hqi:q i=false):∀(l:List Nat),i∈l->(l.filter q).length<(l.filter p).length:=by
 have le:∀l:List Nat,(l.filter q).length<=(l.filter p).length:=by
  intro l
  induction l with
  | nil=>simp
  | cons x l ih=>
   simp only[List.filter_cons];cases hqx:q x with
   | true=>simp[hq x hqx];exact ih
   | false=>cases hpx:p x <;>simp <;>omega
 intro l
 induction l with
 | nil=>intro h;cases h
 | cons x l ih=>
  intro h;simp only[List.filter_cons];cases h with
  | head=>simp[hi,hqi];have:=le l;omega
  | tail _ hm=>
   have:=ih hm;cases hqx:q x with
   | true=>simp[hq x hqx];exact this
   | false=>cases hpx:p x <;>simp <;>omega
def left (ops:Array Oper) (listed:Array Bool):Nat:=((List.range ops.size).filter λi=>!listed.getD i false).length
theorem zG {ops:Array Oper}{listed:Array Bool}{i:Nat}(hs:listed.size=ops.size) (hi:i<ops.size) (hl:¬gf listed i):left ops (listed.setIfInBounds i true)<left ops listed:=by
 unfold left;refine Di (i:=i) (λx hx=>?_) ?_ ?_ _ (List.mem_range.2 hi)
 .cases h:listed.getD x false with
  | false=>rfl
  | true=>
   have:gf (listed.setIfInBounds i true) x:=(pz (by rw[hs];exact hi)).2 (.inr h);unfold gf at this;rw[this]at hx;cases hx
 .cases h:listed.getD i false with
  | false=>rfl
  | true=>exact absurd h hl
 .have:gf (listed.setIfInBounds i true) i:=(pz (by rw[hs];exact hi)).2 (.inl rfl);unfold gf at this;rw[this];rfl
end
theorem Bo {ops:Array Oper}{σ0:aH}{h0:AH}{w0:World}{call:mL}(hcall:dI P call){Q:Exit->Act->World->Prop}{frE:Fr}{hE:AH}
  (hQ:∀σ' a' w',St P σ0 h0 w0 σ' hE w'->AR σ' frE a'->Q .normal a' w'):∀(fuel:Nat){T rest:List Nat}{l:List (Nat×List Nat)}{fr:Fr}{h:AH}{listed:Array Bool}{a:Act}{w:World}{σ:aH}{nm:Nat->Option Nat},
  rG P ops σ0 h0 w0 T rest l fr h listed a w σ nm->drawn P call ops l fr h=Y (frE,hE)->left ops listed<=fuel->wpAny P .any ops Q fuel listed a w:=by
 have atEnd:∀{T rest:List Nat}{l:List (Nat×List Nat)}{fr:Fr}{h:AH}{listed:Array Bool}{a:Act}{w:World}{σ:aH}{nm:Nat->Option Nat},
   rG P ops σ0 h0 w0 T rest l fr h listed a w σ nm->drawn P call ops l fr h=Y (frE,hE)->Region.ready .any ops listed = []->Q .normal a w:=by
  intro T rest l fr h listed a w σ nm I hd hnone;obtain⟨T',rest',l',fr',h',nm',I',hd',hcase⟩:=rG.go_on l I hd;have none_ready:∀i o,¬gf listed i->ops[i]? = Y o->(∀x∈bX o,gf listed x)->False:=λi o h1 h2 h3=>by
   have:i∈Region.ready .any ops listed:=(mZ I.size).2 ⟨h1,o,h2,h3⟩;rw[hnone]at this;cases this
  have hall:∀i∈T',gf listed i:=λi hi=>Classical.byContradiction λhn=>by
   obtain⟨k,hk,hlk,o,ho,hw⟩:=I'.good.open_ (gf listed) ⟨i,hi,hn⟩;exact none_ready k o hlk ho hw
  rcases hcase with⟨rfl,hr⟩ | ⟨j,again,l'',o,rfl,hj,ho,hw,_⟩
  .have hd2:Y (fr',h')=Y (frE,hE):=hd';cases hd2;exact hQ σ a w I'.st ⟨I'.ar.n,I'.ar.d,λt _=>I'.ar.t t λ⟨_,i,hi,hli,_⟩=>hli (hall i hi)⟩
  .exact absurd (none_ready j o (λe=>I'.disj j hj (I'.sub j e)) ho (λx hx=>hall x (hw x hx))) id
 intro fuel
 induction fuel with
 | zero=>
  intro T rest l fr h listed a w σ nm I hd hf;have hnone:Region.ready .any ops listed = []:=by
   cases hr:Region.ready .any ops listed with
   | nil=>rfl
   | cons i r=>
    exfalso;have hi:i∈Region.ready .any ops listed:=by rw[hr];simp
    obtain⟨h1,o,ho,_⟩:=(mZ I.size).1 hi;have:=zG I.size (oH ho) h1;omega
  exact⟨hnone,atEnd I hd hnone⟩
 | succ fuel ih=>
  intro T rest l fr h listed a w σ nm I hd hf;refine⟨atEnd I hd,λi hi=>?_⟩;obtain⟨T',rest',l',fr',h',nm',I',hd',hcase⟩:=rG.go_on l I hd;obtain⟨hli,o,ho,hw⟩:=(mZ I.size).1 hi;have hlt:=zG I.size (oH ho) hli;by_cases hT:i∈T'
  .exact I'.give hT hli ho hw (λa' w' σ' I2=>ih I2 hd' U)
  .rcases hcase with⟨rfl,hr⟩ | ⟨j,again,l'',oj,rfl,hj,hoj,hwj,hloud,hall,hag,hp2⟩
   .rcases I'.part i (oH ho) with y | y
    .exact absurd y hT
    .rw[hr]at y;cases y
   .have hir:i∈rest':=by
     rcases I'.part i (oH ho) with y | y
     .exact absurd y hT
     .exact y
    have hij:i=j:=Classical.byContradiction λhne=>by
     have h1:=hall i hir hne;have h2:ready ops T' i=true:=Dh ho (λx hx=>I'.sub x (hw x hx));rw[h1]at h2;cases h2
    subst hij;rw[ho]at hoj;cases hoj;have hd2:cw P call ops i again (drawn P call ops l'') fr' h' = Y (frE,hE):=hd';unfold cw at hd2;rw[ho]at hd2;simp only at hd2;cases hop:iW P call ops o fr' h' with
    | none=>rw[hop]at hd2;cases hd2
    | some fh=>
     obtain⟨fr1,h1⟩:=fh;rw[hop]at hd2;have hd3:cond (aV (cn P ops fr1 h1) (zB ops fr' o again)) (drawn P call ops l'' fr1 h1) ω=Y (frE,hE):=hd2;obtain⟨hs,hd4⟩:=af hd3;have hstay:(dE ops fr' o && !(jZ o.op))=false->h1=h':=by
      intro hz;unfold iW at hop;cases hwn:dE ops fr' o with
      | false=>rw[hwn]at hop;injection hop with hop;injection hop with _ e;exact e.symm
      | true=>
       rw[hwn]at hop hz;cases hop2:o.op <;>rw[hop2]at hz <;>first | (cases hz;done) | skip
       rename_i x;have hk:aI P o = .loud:=by unfold aI;rw[hop2]
       rw[hk]at hop;simp only[cond_true]at hop;cases hcn:bT o with
       | false=>rw[hcn]at hop;cases hop
       | true=>
        rw[hcn]at hop;have hop3:oq P call o fr' h' (vE P o fr' h')=Y (fr1,h1):=hop;have he:vE P o fr' h' = Y (ev fr' x,h'):=by unfold vE;rw[hop2]
        rw[he]at hop3;injection hop3 with e;injection e with _ e;exact e.symm
     have hlone:=I'.lone;obtain⟨hl1,_⟩:=mY (l:=l''.map (·.1)) hlone;have hTR:∀t∈o.looksAt ops,TR σ fr' a t:=λt ht=>I'.ar.t t λ⟨_,x,hx,hlx,ox,hox,hdx⟩=>by
      have hp:=lF ho hox hx hl1;have qx:=I'.quiet x hx hlx ox hox;rcases hp.xo with y | y | y
      .rw[qx]at y;cases y
      .exact y t hdx ht
      .exact hlx (hw x y)
     have hwant:=px (ops:=ops) (o:=o) hTR;have fin:∀v v' w' σ',fr1=dF fr' o.dst v->St P σ h' w σ' h1 w'->VR σ' v v'->wpAny P .any ops Q fuel (listed.setIfInBounds i true) (a.put o.dst v') w':=λv v' w' σ' hfr hst hv=>
      ih (I'.step rfl hj ho hw hloud hag hp2 hfr hst hv hs hstay) hd4 U
     unfold wpOp;simp only[ho];unfold iW at hop;cases hwn:dE ops fr' o with
     | false=>
      rw[hwn]at hop hwant;simp only[cond_false]at hop;cases hop;simp only[hwant,Bool.false_eq_true,if_false];exact fin undef undef w σ rfl (St.refl I'.st.hr) (cB σ)
     | true=>
      rw[hwn]at hop hwant;simp only[cond_true]at hop;obtain⟨hc,h2⟩:=af hop;simp only[hwant,if_true];exact .inl (mW hcall I'.st.hr (um hc hTR) h2 fin)
theorem gg (hm:P.follows .mixedOrders=true){ops:Array Oper}{id:Nat}{call:mL}(hcall:dI P call){l:List (Nat×List Nat)}{fr frE:Fr}{h hE:AH}{a:Act}(hr:HR P σ h w) (hA:AR σ fr a)
  (hp:eK P ops=Y l) (hd:drawn P call ops l fr h=Y (frE,hE)){Q:Exit->Act->World->Prop}(hQ:∀σ' a' w',St P σ h w σ' hE w'->AR σ' frE a'->Q .normal a' w'):(Code.region id ops true).wp P Q a w:=by
 unfold eK at hp
 split at hp
 .rename_i l0 hl0;obtain⟨h1,h2⟩:=af hp;cases h2;refine wp_region_any hm ?_;have hr':HR P σ h { w with drawn:=w.drawn+1 }:=hr.drawn rfl;have hempty:∀i,¬gf (Array.replicate ops.size false) i:=λi hi=>by
   have:(Array.replicate ops.size false).getD i false=false:=by rw[Array.getD_eq_getD_getElem?,Array.getElem?_replicate];split <;>rfl
   unfold gf at hi;rw[this]at hi;cases hi
  have nomem:∀{i:Nat}{p:Prop},i∈([]:List Nat)->p:=λh=>by cases h
  have hst:St P σ h w σ h { w with drawn:=w.drawn+1 }:=by
   have:=St.refl hr;exact⟨this.ext,hr',rfl,rfl,⟨rfl,Nat.le_succ _⟩,this.size,this.next,this.new,this.keep,this.frame,this.ro⟩
  have I:rG P ops σ h w [] (List.range ops.size) l fr h (Array.replicate ops.size false) a { w with drawn:=w.drawn+1 } σ (λ_=>ω):=
   ⟨mX _ _ _ hl0,.nil,λi hi=>.inr (List.mem_range.2 hi),λi _ h=>nomem h,h1,λi hi=>absurd hi (hempty i),λi o hi=>absurd hi (hempty i),λi h=>nomem h,hst,
    ⟨hA.n,hA.d,λt _=>hA.t t (λx=>x)⟩,λi h=>nomem h,λi h=>nomem h,by simp⟩
  refine Bo hcall hQ ops.size I hd ?_;unfold left;exact Nat.le_trans (List.length_filter_le _ _) (by simp)
 .cases hp
def Lt:mJ->Exit->Prop
 | .normal,.normal=>True
 | .exit i,.exit j=>i=j
 | .ret,.ret=>True
 | _,_=>False
def uo (P:Program) (rc:Code->Fr->AH->R):Prop:=
 ∀c fr h e frE hE,rc c fr h=Y (e,frE,hE)->∀(σ:aH) (w:World) (a:Act) (Q:Exit->Act->World->Prop),HR P σ h w->AR σ fr a->
  (∀x σ' a' w',Lt e x->St P σ h w σ' hE w'->AR σ' frE a'->Q x a' w')->c.wp P Q a w
theorem sJ:∀(l:List Value) (i:Nat) (t:Tr Value) (k:Nat),(frame i l t).get k=if i<=k/\k<i+l.length then l[k - i]? else t.get k
 | [],i,t,k=>by rw[if_neg (by simp)];rfl
 | v :: l,i,t,k=>by
  rw[frame,sJ l (i+1) _ k];by_cases h1:i+1<=k/\k<i+1+l.length
  .rw[if_pos h1,if_pos (by simp;omega)];rw[show k - i=(k - (i+1))+1 by omega]
   try simp
  .rw[if_neg h1];by_cases e:k=i
   .subst e;rw[if_pos (by simp),Tr.get_set]
    try simp
   .rw[Tr.get_set_ne _ _ (Ne.symm e),if_neg (by simp;omega)]
def Bp (tmps:Array Value):ResultVar->Sem Value
 | .tmp t=>pure (tmps.getD t undef)
 | .cell b t=>do loadVar t (<-asAddr (tmps.getD b undef))
theorem qe (fn:Func) (tmps:Array Value):results fn tmps=(do let vs <-fn.results.mapM (Bp tmps);pure (if h:vs.size=1 then vs[0] else .tuple vs)):=by
 unfold results
 congr 1
theorem ii {fr:Fr}{h:AH}{a:Act}(hr:HR P σ h w) (hA:AR σ fr a):∀(rs:List ResultVar){vs:List Value},iZ P fr h rs=Y vs->
  ∃vs',(rs.mapM (Bp a.tmps)).run P w = .ok vs' w/\br σ vs vs'
 | [],vs,h=>by
  have:vs = []:=by simp[iZ]at h;exact h
  subst this;exact⟨[],by simp,br.nil σ⟩
 | .tmp t :: rs,vs,h=>by
  simp only[iZ,Option.map_eq_some_iff]at h;obtain⟨us,h1,rfl⟩:=h;obtain⟨us',h2,h3⟩:=ii hr hA rs h1;refine⟨_,?_,br.cons (hA.t t (λx=>x)) h3⟩;simp only[List.mapM_cons,Bp,Sem.run_bind,Sem.run_pure,Result.andThen_ok];rw[show(List.mapM (Bp a.tmps) rs).run P w = .ok us' w from h2];rfl
 | .cell b t :: rs,vs,h=>by
  simp only[iZ]at h;unfold Fq at h
  split at h
  .rename_i v us hv h1;cases h;obtain⟨us',h2,h3⟩:=ii hr hA rs h1;have hb:=hA.t b (λx=>x);unfold TR at hb;obtain⟨v',r1,r2⟩:=oB (P:=P) hr hb hv;refine⟨_,?_,br.cons r2 h3⟩;have hp:∃ad,a.tmps.getD b undef = ξ (Y ad):=by
    unfold iK at hv
    split at hv
    .rename_i ad he;rw[he]at hb;generalize a.tmps.getD b undef=z at hb;cases hb;exact⟨_,rfl⟩
    .cases hv
   obtain⟨ad,had⟩:=hp;rw[had]at r1;simp only[Instr.loadAt,Instr.sureAddr,Sem.run_bind,Sem.run_pure,Result.andThen_ok]at r1;have e:(asAddr (a.tmps.getD b undef)).run P w = .ok ad w:=by rw[had];rfl
   have e2:(Bp a.tmps (.cell b t)).run P w = .ok v' w:=by simp only[Bp,Sem.run_bind,e,Result.andThen_ok,r1]
   simp only[List.mapM_cons,Sem.run_bind,e2,Sem.run_pure,Result.andThen_ok,h2]
  .cases h
theorem Dj {vs vs':List Value}(h:br σ vs vs'):VR σ (one vs) (if h:vs'.toArray.size=1 then vs'.toArray[0] else .tuple vs'.toArray):=by
 cases vs with
 | nil=>
  have:vs' = []:=List.eq_nil_of_length_eq_zero (by simpa using h.1.symm);subst this;exact VR.tuple' (br.nil σ)
 | cons v vs=>
  cases vs' with
  | nil=>have:=h.1;simp at this
  | cons v' vs'=>
   cases vs with
   | nil=>
    have:vs' = []:=List.eq_nil_of_length_eq_zero (by have:=h.1;simpa using this.symm);subst this;exact h.2 0 v v' rfl rfl
   | cons u us=>
    have hl:¬(v' :: vs').toArray.size=1:=by have:=h.1;simp at this⊢;intro e;subst e;simp at this
    rw[dif_neg hl];exact VR.tuple' h
theorem ew {rc:Code->Fr->AH->R}(hrc:uo P rc):dI P (calls P rc):=by
 intro g args h v h' hc σ w args' hr hargs;unfold calls at hc
 split at hc
 .rename_i fn hfn;unfold vI at hc
  split at hc
  .rename_i c hb;obtain⟨h1,h2⟩:=af hc;have h1:=gc h1;refine calls_of_wp hfn hb ?_;have hlen:args'.size=args.length:=by have:=hargs.1;simp at this;exact this.symm
   have hA:AR σ ⟨fn.ntmps,frame 0 args .nil⟩ { tmps:=args' ++ Array.replicate (fn.ntmps - args'.size) undef,defers:=[] }:=by
    refine⟨by simp[hlen];omega,rfl,λt _=>?_⟩;unfold TR Fr.get;rw[sJ,Array.getD_eq_getD_getElem?];simp only[Nat.zero_le,true_and,Nat.zero_add,Nat.sub_zero];by_cases ht:t<args.length
    .rw[if_pos ht,Array.getElem?_append_left U];obtain⟨v',q1,q2⟩:=hargs.get (List.getElem?_eq_getElem ht);have q1':args'[t]? = Y v':=by simpa using q1
     rw[List.getElem?_eq_getElem ht,q1'];exact q2
    .rw[if_neg ht,Array.getElem?_append_right U];have:((Array.replicate (fn.ntmps - args'.size) undef)[t - args'.size]?).getD undef=undef:=by
      rw[Array.getElem?_replicate];split <;>rfl
     rw[this];exact cB σ
   have fin:∀{fr:Fr}{h2:AH}{a':Act}{w':World}{σ':aH}{x:Exit},ko h2 (iZ P fr h2 fn.results.toList)=Y (v,h')->St P σ h w σ' h2 w'->AR σ' fr a'->(x = .normal\/x = .ret)->
     bodyPost P fn (λe w'=>∃v' σ',e = .returned v'/\St P σ h w σ' h' w'/\VR σ' v v') x a' w':=by
    intro fr h2 a' w' σ' x hres hst hA' hx;cases hv:iZ P fr h2 fn.results.toList with
    | none=>rw[hv]at hres;cases hres
    | some vs=>
     rw[hv]at hres;cases hres;obtain⟨vs',q1,q2⟩:=ii hst.hr hA' fn.results.toList hv;have hrun:(results fn a'.tmps).run P w' = .ok (if h:vs'.toArray.size=1 then vs'.toArray[0] else .tuple vs'.toArray) w':=by
      rw[qe,Array.mapM_eq_mapM_toList];simp only[Sem.run_bind,Sem.run_map,q1,Result.andThen_ok,Sem.run_pure]
     rcases hx with rfl | rfl <;>exact⟨hA'.d,_,hrun,_,σ',rfl,hst,Dj q2⟩
   unfold vH at h2
   split at h2
   .rename_i fr hh he;refine hrc _ _ _ _ _ _ he σ w _ _ hr hA (λx σ' a' w' hx hst hA'=>?_);cases x <;>first | exact hx.elim | exact fin h2 hst hA' (.inl rfl)
   .rename_i fr hh he;refine hrc _ _ _ _ _ _ he σ w _ _ hr hA (λx σ' a' w' hx hst hA'=>?_);cases x <;>first | exact hx.elim | exact fin h2 hst hA' (.inr rfl)
   .cases h2
  .cases hc
 .cases hc
theorem sL (n:Nat) (c:Code) (fr:Fr) (h:AH):code P (n+1) c fr h=C9 P (code P n) c fr h:=rfl
theorem sM (c:Code) (fr:Fr) (h:AH):code P 0 c fr h=none:=rfl
theorem ij (hm:P.follows .mixedOrders=true):∀n,uo P (code P n):=by
 intro n
 induction n using Nat.strongRecOn with
 | _ n ih=>
  cases n with
  | zero=>intro c fr h e frE hE hc;rw[sM]at hc;cases hc
  | succ n=>
   have IH:uo P (code P n):=ih n (Nat.lt_succ_self n);intro c fr h e frE hE hc σ w a Q hr hA hQ;rw[sL]at hc;unfold C9 at hc
   split at hc
   .cases hc;exact wp_skip (hQ .normal σ a w trivial (St.refl hr) hA)
   .cases hc;exact wp_label (hQ .normal σ a w trivial (St.refl hr) hA)
   .rename_i id ops d;have hcall:=ew IH;unfold IP at hc;cases d with
    | true=>
     simp only at hc
     split at hc
     .rename_i l hl;cases hd:drawn P (calls P (code P n)) ops l fr h with
      | none=>rw[hd]at hc;cases hc
      | some fh=>
       obtain⟨fr1,h1⟩:=fh;rw[hd]at hc;cases hc;exact gg hm hcall hr hA hl hd (λσ' a' w' hs hA'=>hQ .normal σ' a' w' trivial hs hA')
     .cases hc
    | false=>
     simp only at hc;cases hd:fj P (calls P (code P n)) ops ops.toList fr h with
     | none=>rw[hd]at hc;cases hc
     | some fh=>
      obtain⟨fr1,h1⟩:=fh;rw[hd]at hc;cases hc;refine wp_region (fo hcall (List.range ops.size) ops.toList ?_ hr hA hd (λσ' a' w' hs hA'=>hQ .normal σ' a' w' trivial hs hA'));apply List.ext_getElem?;intro i;simp only[List.getElem?_map];by_cases hi:i<ops.size
      .rw[List.getElem?_range hi];simp[hi]
      .rw[List.getElem?_eq_none (by simpa using hi),List.getElem?_eq_none (by simpa using hi)];rfl
   .rename_i x y;refine wp_seq ?_;unfold iR at hc
    split at hc
    .rename_i fr1 h1 hx;refine IH x fr h .normal fr1 h1 hx σ w a _ hr hA (λz σ1 a1 w1 hz hs hA1=>?_);cases z <;>first | exact hz.elim | skip
     exact IH y fr1 h1 e frE hE hc σ1 w1 a1 Q hs.hr hA1 (λz2 σ2 a2 w2 hz2 hs2 hA2=>hQ z2 σ2 a2 w2 hz2 (hs.trans hs2) hA2)
    .rename_i hne;refine IH x fr h e frE hE hc σ w a _ hr hA (λz σ1 a1 w1 hz hs hA1=>?_);cases z with
     | normal=>cases e <;>first | exact hz.elim | exact absurd hc (hne _ _)
     | exit id=>exact hQ _ σ1 a1 w1 hz hs hA1
     | ret=>exact hQ _ σ1 a1 w1 hz hs hA1
     | goto l=>cases e <;>exact hz.elim
     | panic l=>cases e <;>exact hz.elim
     | outgrown=>cases e <;>exact hz.elim
   .rename_i x y z;obtain⟨hcon,hc⟩:=af hc;have hx:VR σ (ev fr x) (a.eval x):=by
     cases x with
     | tmp t=>exact hA.t t (λx=>x)
     | const v=>exact cY hcon
     | global g=>cases hcon
     | func f=>exact .func _ rfl (λi v v' y=>by simp at y) rfl (λi v v' y=>by simp at y)
    unfold pP at hc
    split at hc
    .rename_i he;rw[he]at hx;have:a.eval x = .bool true:=by generalize a.eval x=q at hx;cases hx;rfl
     exact wp_cond_true this (IH y fr h e frE hE hc σ w a Q hr hA hQ)
    .rename_i he;rw[he]at hx;have:a.eval x = .bool false:=by generalize a.eval x=q at hx;cases hx;rfl
     exact wp_cond_false this (IH z fr h e frE hE hc σ w a Q hr hA hQ)
    .cases hc
   .rename_i id b;refine wp_block ?_;unfold i7 at hc
    split at hc
    .rename_i i fr1 h1 hb;cases hi:Nat.beq i id with
     | true=>
      rw[hi]at hc;cases hc;have:=aq hi;refine IH b fr h _ _ _ hb σ w a _ hr hA (λz σ1 a1 w1 hz hs hA1=>?_);cases z with
      | exit k=>
       have hk:i=k:=hz;subst hk;simp only[Exit.inBlock,this,if_true];exact hQ .normal σ1 a1 w1 trivial hs hA1
      | _=>exact hz.elim
     | false=>
      rw[hi]at hc;cases hc;have hne:i≠id:=λy=>by subst y;rw[Nat.beq_refl]at hi;cases hi
      refine IH b fr h _ _ _ hb σ w a _ hr hA (λz σ1 a1 w1 hz hs hA1=>?_);cases z with
      | exit k=>
       have hk:i=k:=hz;subst hk;simp only[Exit.inBlock,hne,if_false];exact hQ (.exit i) σ1 a1 w1 rfl hs hA1
      | _=>exact hz.elim
    .rename_i hne;refine IH b fr h e frE hE hc σ w a _ hr hA (λz σ1 a1 w1 hz hs hA1=>?_);cases z with
     | normal=>exact hQ _ σ1 a1 w1 hz hs hA1
     | exit k=>cases e <;>first | exact hz.elim | exact absurd hc (hne _ _ _)
     | ret=>exact hQ _ σ1 a1 w1 hz hs hA1
     | goto l=>cases e <;>exact hz.elim
     | panic l=>cases e <;>exact hz.elim
     | outgrown=>cases e <;>exact hz.elim
   ·
    rename_i b;refine wp_loop_ghost (λm a1 w1=>m<=n+1/\∃fr1 h1 σ1,code P m (.loop b) fr1 h1=Y (e,frE,hE)/\St P σ h w σ1 h1 w1/\AR σ1 fr1 a1) (n+1) ⟨Nat.le_refl _,fr,h,σ,hc,St.refl hr,hA⟩ ?_;rintro m a1 w1 ⟨hm1,fr1,h1,σ1,hcode,hs,hA1⟩;cases m with
    | zero=>rw[sM]at hcode;cases hcode
    | succ m=>
     have IHm:uo P (code P m):=ih m U;rw[sL]at hcode;have hcode2:iR (code P m (.loop b)) (code P m b fr1 h1)=Y (e,frE,hE):=hcode;unfold iR at hcode2
     split at hcode2
     .rename_i fr2 h2 hb;refine IHm b fr1 h1 .normal fr2 h2 hb σ1 w1 a1 _ hs.hr hA1 (λz σ2 a2 w2 hz hs2 hA2=>?_);cases z <;>first | exact hz.elim | skip
      exact⟨m,Nat.lt_succ_self m,U,fr2,h2,σ2,hcode2,hs.trans hs2,hA2⟩
     .rename_i hne;refine IHm b fr1 h1 e frE hE hcode2 σ1 w1 a1 _ hs.hr hA1 (λz σ2 a2 w2 hz hs2 hA2=>?_);cases z with
      | normal=>cases e <;>first | exact hz.elim | exact absurd hcode2 (hne _ _)
      | exit id=>exact hQ _ σ2 a2 w2 hz (hs.trans hs2) hA2
      | ret=>exact hQ _ σ2 a2 w2 hz (hs.trans hs2) hA2
      | goto l=>cases e <;>exact hz.elim
      | panic l=>cases e <;>exact hz.elim
      | outgrown=>cases e <;>exact hz.elim
   .cases hc;exact wp_exit (hQ (.exit _) σ a w rfl (St.refl hr) hA)
   .rename_i b;refine wp_scope_straight ?_;refine IH b fr h e frE hE hc σ w a _ hr hA (λz σ1 a1 w1 hz hs hA1=>?_);cases z with
    | goto l=>cases e <;>exact hz.elim
    | _=>exact hQ _ σ1 a1 w1 hz hs hA1
   .cases hc;exact wp_ret (hQ .ret σ a w trivial (St.refl hr) hA)
   .cases hc
theorem Dk (hm:P.follows .mixedOrders=true){n:Nat}{g:FuncId}{args:List Value}{h h':AH}{v:Value}(hc:calls P (code P n) g args h=Y (v,h')){σ:aH}{w:World}{args':Array Value}
  (hr:HR P σ h w) (ha:br σ args args'.toList):Calls P g args' w (λe w'=>∃v' σ',e = .returned v'/\St P σ h w σ' h' w'/\VR σ' v v'):=
 ew (ij hm n) g args h v h' hc σ w args' hr ha
end
end Eva
end
section
open Go Go.RowKit
namespace Eva
noncomputable section
def jf:List Value->Option (List Int)
 | []=>Y []
 | η ν x :: l=>(jf l).map (x :: ·)
 | _=>ω
def yl (h:AH) (b o:Nat) (c:List Value) (e:TypeId) (n K:Nat):Option (List Int)->Option VH
 | some zs=>cond (Nat.ble (o+n) c.length && Nat.ble n (K / 2) && Nat.ble n 1000000) (Y (.tuple #[],h.put b (.cells (c.take o ++ (zs.mergeSort λx y=>decide (x<=y)).map (Value.int .i64) ++ c.drop (o+n)) e false))) ω
 | none=>ω
def zH (h:AH):List Value->Option VH
 | [ψ (Y ⟨b,o,ω⟩) n K]=>match h.get b with
  | some (.cells c e false)=>yl h b o c e n K (jf ((c.drop o).take n))
  | _=>ω
 | _=>ω
def jg:List Value->Option (List (Int×Int×Int))
 | []=>Y []
 | η ν x :: η ν y :: η ν z :: l=>(jg l).map ((x,y,z) :: ·)
 | _=>ω
def aX (t:Int×Int×Int):List Value:=[η ν t.1,η ν t.2.1,η ν t.2.2]
def lG (a b:Int×Int×Int):Bool:=decide (b.2.2<a.2.2\/b.2.2=a.2.2/\(a.1<b.1\/a.1=b.1/\a.2.1<b.2.1))
def nd (h:AH) (b o:Nat) (c:List Value) (e:TypeId) (n K:Nat):Option (List (Int×Int×Int))->Option VH
 | some zs=>cond (Nat.ble (o+n*3) c.length && Nat.ble n (K / 2) && Nat.ble n 1000000) (Y (.tuple #[],h.put b (.cells (c.take o ++ (zs.mergeSort λx y=>!lG y x).flatMap aX ++ c.drop (o+n*3)) e false))) ω
 | none=>ω
def lH (h:AH):Value->Option VH
 | ψ ω 0 _=>Y (.tuple #[],h)
 | ψ (Y ⟨b,o,ω⟩) n K=>match h.get b with
  | some (.cells c e false)=>nd h b o c e n K (jg ((c.drop o).take (n*3)))
  | _=>ω
 | _=>ω
def gB (h:AH):List Value->Option VH
 | [x,.func (.func f) a b]=>cond (Nat.beq f 139 && (Nat.beq a.size 0 && Nat.beq b.size 0)) (lH h x) ω
 | _=>ω
def IR (h:AH):List Value->Option VH
 | [.iface 101 (ξ (Y ⟨b,0,ω⟩)),.iface 100 (η ν k)]=>match h.get b with
  | some (.cells [_,_,.iface 100 (η ν e)] _ _)=>Y (.bool (decide (e=k)),h)
  | _=>ω
 | _=>ω
def Ho (h:AH):List Value->Option VH
 | [.iface 101 (ξ (Y ⟨b,0,ω⟩)),.iface 103 (ξ (Y ⟨t,0,ω⟩))]=>match h.get t with
  | some (.cells [_] e false)=>Y (.bool true,h.put t (.cells [ξ (Y ⟨b,0,ω⟩)] e false))
  | _=>ω
 | [.iface 100 (η ν _),.iface 103 (ξ (Y ⟨t,0,ω⟩))]=>match h.get t with
  | some (.cells [_] _ _)=>Y (.bool false,h)
  | _=>ω
 | [.iface 100 (η ν x),.iface 108 (ξ (Y ⟨t,0,ω⟩))]=>match h.get t with
  | some (.cells [_] e false)=>Y (.bool true,h.put t (.cells [η ν x] e false))
  | _=>ω
 | _=>ω
def Dl (h:AH):List Value->Option VH
 | []=>Y (.bool true,h)
 | _=>ω
def orc (g:FuncId) (args:List Value) (h:AH):Option VH:=
 cond (Nat.beq g 308) (zH h args) (cond (Nat.beq g 4) (Dl h args) (cond (Nat.beq g 138) (gB h args) (cond (Nat.beq g 34) (IR h args) (cond (Nat.beq g 35) (Ho h args) ω))))
def aR (P:Program) (rc:Code->Fr->AH->R) (g:FuncId) (args:List Value) (h:AH):Option VH:=
 match orc g args h with
 | some r=>Y r
 | none=>calls P rc g args h
def Hp (P:Program) (rc:Code->Fr->AH->R) (ops:Array Oper) (fr:Fr) (h:AH):Bool->R
 | true=>match eK P ops with
  | some l=>Hl (drawn P (aR P rc) ops l fr h)
  | none=>ω
 | false=>Hl (fj P (aR P rc) ops ops.toList fr h)
def stepO (P:Program) (rc:Code->Fr->AH->R) (c:Code) (fr:Fr) (h:AH):R:=
 match c with
 | .skip=>Y (.normal,fr,h)
 | .label _=>Y (.normal,fr,h)
 | .region _ ops d=>Hp P rc ops fr h d
 | .seq a b=>iR (rc b) (rc a fr h)
 | .cond x a b=>cond (eU x) (pP (λ_=>rc a fr h) (λ_=>rc b fr h) (ev fr x)) ω
 | .block id b=>i7 id (rc b fr h)
 | .loop b=>iR (rc (.loop b)) (rc b fr h)
 | .exit id=>Y (.exit id,fr,h)
 | .scope b=>rc b fr h
 | .ret=>Y (.ret,fr,h)
 | _=>ω
def aK (P:Program) (n:Nat):Code->Fr->AH->R:=
 Nat.rec (motive:=λ_=>Code->Fr->AH->R) (λ_ _ _=>ω) (λ_ ih c fr h=>stepO P ih c fr h) n
section
variable {P:Program}
theorem lI (hO:dI P orc){rc:Code->Fr->AH->R}(hrc:uo P rc):dI P (aR P rc):=by
 intro g args h v h' hc σ w args' hr ha;unfold aR at hc;cases ho:orc g args h with
 | some r=>rw[ho]at hc;injection hc with hc;subst hc;exact hO g args h v h' ho σ w args' hr ha
 | none=>rw[ho]at hc;exact ew hrc g args h v h' hc σ w args' hr ha
theorem be (n:Nat) (c:Code) (fr:Fr) (h:AH):aK P (n+1) c fr h=stepO P (aK P n) c fr h:=rfl
theorem kv (c:Code) (fr:Fr) (h:AH):aK P 0 c fr h=none:=rfl
theorem vZ (hm:P.follows .mixedOrders=true) (hO:dI P orc):∀n,uo P (aK P n):=by
 intro n
 induction n using Nat.strongRecOn with
 | _ n ih=>
  cases n with
  | zero=>intro c fr h e frE hE hc;rw[kv]at hc;cases hc
  | succ n=>
   have IH:uo P (aK P n):=ih n (Nat.lt_succ_self n);intro c fr h e frE hE hc σ w a Q hr hA hQ;rw[be]at hc;unfold stepO at hc
   split at hc
   .cases hc;exact wp_skip (hQ .normal σ a w trivial (St.refl hr) hA)
   .cases hc;exact wp_label (hQ .normal σ a w trivial (St.refl hr) hA)
   .rename_i id ops d;have hcall:=lI hO IH;unfold Hp at hc;cases d with
    | true=>
     simp only at hc
     split at hc
     .rename_i l hl;cases hd:drawn P (aR P (aK P n)) ops l fr h with
      | none=>rw[hd]at hc;cases hc
      | some fh=>
       obtain⟨fr1,h1⟩:=fh;rw[hd]at hc;cases hc;exact gg hm hcall hr hA hl hd (λσ' a' w' hs hA'=>hQ .normal σ' a' w' trivial hs hA')
     .cases hc
    | false=>
     simp only at hc;cases hd:fj P (aR P (aK P n)) ops ops.toList fr h with
     | none=>rw[hd]at hc;cases hc
     | some fh=>
      obtain⟨fr1,h1⟩:=fh;rw[hd]at hc;cases hc;refine wp_region (fo hcall (List.range ops.size) ops.toList ?_ hr hA hd (λσ' a' w' hs hA'=>hQ .normal σ' a' w' trivial hs hA'));apply List.ext_getElem?;intro i;simp only[List.getElem?_map];by_cases hi:i<ops.size
      .rw[List.getElem?_range hi];simp[hi]
      .rw[List.getElem?_eq_none (by simpa using hi),List.getElem?_eq_none (by simpa using hi)];rfl
   .rename_i x y;refine wp_seq ?_;unfold iR at hc
    split at hc
    .rename_i fr1 h1 hx;refine IH x fr h .normal fr1 h1 hx σ w a _ hr hA (λz σ1 a1 w1 hz hs hA1=>?_);cases z <;>first | exact hz.elim | skip
     exact IH y fr1 h1 e frE hE hc σ1 w1 a1 Q hs.hr hA1 (λz2 σ2 a2 w2 hz2 hs2 hA2=>hQ z2 σ2 a2 w2 hz2 (hs.trans hs2) hA2)
    .rename_i hne;refine IH x fr h e frE hE hc σ w a _ hr hA (λz σ1 a1 w1 hz hs hA1=>?_);cases z with
     | normal=>cases e <;>first | exact hz.elim | exact absurd hc (hne _ _)
     | exit id=>exact hQ _ σ1 a1 w1 hz hs hA1
     | ret=>exact hQ _ σ1 a1 w1 hz hs hA1
     | goto l=>cases e <;>exact hz.elim
     | panic l=>cases e <;>exact hz.elim
     | outgrown=>cases e <;>exact hz.elim
   .rename_i x y z;obtain⟨hcon,hc⟩:=af hc;have hx:VR σ (ev fr x) (a.eval x):=by
     cases x with
     | tmp t=>exact hA.t t (λx=>x)
     | const v=>exact cY hcon
     | global g=>cases hcon
     | func f=>exact .func _ rfl (λi v v' y=>by simp at y) rfl (λi v v' y=>by simp at y)
    unfold pP at hc
    split at hc
    .rename_i he;rw[he]at hx;have:a.eval x = .bool true:=by generalize a.eval x=q at hx;cases hx;rfl
     exact wp_cond_true this (IH y fr h e frE hE hc σ w a Q hr hA hQ)
    .rename_i he;rw[he]at hx;have:a.eval x = .bool false:=by generalize a.eval x=q at hx;cases hx;rfl
     exact wp_cond_false this (IH z fr h e frE hE hc σ w a Q hr hA hQ)
    .cases hc
   .rename_i id b;refine wp_block ?_;unfold i7 at hc
    split at hc
    .rename_i i fr1 h1 hb;cases hi:Nat.beq i id with
     | true=>
      rw[hi]at hc;cases hc;have:=aq hi;refine IH b fr h _ _ _ hb σ w a _ hr hA (λz σ1 a1 w1 hz hs hA1=>?_);cases z with
      | exit k=>
       have hk:i=k:=hz;subst hk;simp only[Exit.inBlock,this,if_true];exact hQ .normal σ1 a1 w1 trivial hs hA1
      | _=>exact hz.elim
     | false=>
      rw[hi]at hc;cases hc;have hne:i≠id:=λy=>by subst y;rw[Nat.beq_refl]at hi;cases hi
      refine IH b fr h _ _ _ hb σ w a _ hr hA (λz σ1 a1 w1 hz hs hA1=>?_);cases z with
      | exit k=>
       have hk:i=k:=hz;subst hk;simp only[Exit.inBlock,hne,if_false];exact hQ (.exit i) σ1 a1 w1 rfl hs hA1
      | _=>exact hz.elim
    .rename_i hne;refine IH b fr h e frE hE hc σ w a _ hr hA (λz σ1 a1 w1 hz hs hA1=>?_);cases z with
     | normal=>exact hQ _ σ1 a1 w1 hz hs hA1
     | exit k=>cases e <;>first | exact hz.elim | exact absurd hc (hne _ _ _)
     | ret=>exact hQ _ σ1 a1 w1 hz hs hA1
     | goto l=>cases e <;>exact hz.elim
     | panic l=>cases e <;>exact hz.elim
     | outgrown=>cases e <;>exact hz.elim
   ·
    rename_i b;refine wp_loop_ghost (λm a1 w1=>m<=n+1/\∃fr1 h1 σ1,aK P m (.loop b) fr1 h1=Y (e,frE,hE)/\St P σ h w σ1 h1 w1/\AR σ1 fr1 a1) (n+1) ⟨Nat.le_refl _,fr,h,σ,hc,St.refl hr,hA⟩ ?_;rintro m a1 w1 ⟨hm1,fr1,h1,σ1,hcode,hs,hA1⟩;cases m with
    | zero=>rw[kv]at hcode;cases hcode
    | succ m=>
     have IHm:uo P (aK P m):=ih m U;rw[be]at hcode;have hcode2:iR (aK P m (.loop b)) (aK P m b fr1 h1)=Y (e,frE,hE):=hcode;unfold iR at hcode2
     split at hcode2
     .rename_i fr2 h2 hb;refine IHm b fr1 h1 .normal fr2 h2 hb σ1 w1 a1 _ hs.hr hA1 (λz σ2 a2 w2 hz hs2 hA2=>?_);cases z <;>first | exact hz.elim | skip
      exact⟨m,Nat.lt_succ_self m,U,fr2,h2,σ2,hcode2,hs.trans hs2,hA2⟩
     .rename_i hne;refine IHm b fr1 h1 e frE hE hcode2 σ1 w1 a1 _ hs.hr hA1 (λz σ2 a2 w2 hz hs2 hA2=>?_);cases z with
      | normal=>cases e <;>first | exact hz.elim | exact absurd hcode2 (hne _ _)
      | exit id=>exact hQ _ σ2 a2 w2 hz (hs.trans hs2) hA2
      | ret=>exact hQ _ σ2 a2 w2 hz (hs.trans hs2) hA2
      | goto l=>cases e <;>exact hz.elim
      | panic l=>cases e <;>exact hz.elim
      | outgrown=>cases e <;>exact hz.elim
   .cases hc;exact wp_exit (hQ (.exit _) σ a w rfl (St.refl hr) hA)
   .rename_i b;refine wp_scope_straight ?_;refine IH b fr h e frE hE hc σ w a _ hr hA (λz σ1 a1 w1 hz hs hA1=>?_);cases z with
    | goto l=>cases e <;>exact hz.elim
    | _=>exact hQ _ σ1 a1 w1 hz hs hA1
   .cases hc;exact wp_ret (hQ .ret σ a w trivial (St.refl hr) hA)
   .cases hc
theorem Bq (hm:P.follows .mixedOrders=true) (hO:dI P orc){n:Nat}{g:FuncId}{args:List Value}{h h':AH}{v:Value}(hc:aR P (aK P n) g args h=Y (v,h')){σ:aH}{w:World}{args':Array Value}
  (hr:HR P σ h w) (ha:br σ args args'.toList):Calls P g args' w (λe w'=>∃v' σ',e = .returned v'/\St P σ h w σ' h' w'/\VR σ' v v'):=
 lI hO (vZ hm hO n) g args h v h' hc σ w args' hr ha
end
end
end Eva
end
section
open Go Go.RowKit
namespace Eva
section
variable {P:Program}
def mL.le (c d:mL):Prop:=∀g args h r,c g args h=Y r->d g args h=Y r
def RC.le (c d:Code->Fr->AH->R):Prop:=∀x fr h r,c x fr h=Y r->d x fr h=Y r
theorem uq {c d:mL}(hle:mL.le c d){ops:Array Oper}{o:Oper}{fr:Fr}{h:AH}{r:FH}(hr:iW P c ops o fr h=Y r):iW P d ops o fr h=Y r:=by
 unfold iW at hr⊢;cases hw:dE ops fr o with
 | false=>rw[hw]at hr;exact hr
 | true=>
  rw[hw]at hr;simp only[cond_true]at hr⊢;cases hco:bT o with
  | false=>rw[hco]at hr;exact hr
  | true=>
   rw[hco]at hr;simp only[cond_true]at hr⊢;cases hk:aI P o with
   | val=>rw[hk]at hr;exact hr
   | lay=>rw[hk]at hr;exact hr
   | loud=>
    rw[hk]at hr;have hr':oq P c o fr h (vE P o fr h)=Y r:=hr;show oq P d o fr h (vE P o fr h)=Y r;cases hl:vE P o fr h with
    | some x=>rw[hl]at hr';exact hr'
    | none=>
     rw[hl]at hr';have hr2:vF P c o fr h (callee P o fr)=Y r:=hr';show vF P d o fr h (callee P o fr)=Y r;cases hc:callee P o fr with
     | none=>rw[hc]at hr2;exact hr2
     | some ga=>
      obtain⟨g,args⟩:=ga;rw[hc]at hr2;have hr3:zA fr o.dst (c g args h)=Y r:=hr2;show zA fr o.dst (d g args h)=Y r;cases hg:c g args h with
      | none=>rw[hg]at hr3;cases hr3
      | some x=>rw[hle g args h x hg];rw[hg]at hr3;exact hr3
theorem ur {c d:mL}(hle:mL.le c d){ops:Array Oper}:∀(l:List Oper){fr:Fr}{h:AH}{r:FH},fj P c ops l fr h=Y r->fj P d ops l fr h=Y r
 | [],fr,h,r,hr=>hr
 | o :: l,fr,h,r,hr=>by
  have hr':andThen (fj P c ops l) (iW P c ops o fr h)=Y r:=hr;show andThen (fj P d ops l) (iW P d ops o fr h)=Y r;cases h1:iW P c ops o fr h with
  | none=>rw[h1]at hr';cases hr'
  | some fh=>
   obtain⟨fr1,h1'⟩:=fh;rw[uq hle h1];rw[h1]at hr';exact ur hle l hr'
theorem qf {c d:mL}(hle:mL.le c d){ops:Array Oper}:∀(l:List (Nat×List Nat)){fr:Fr}{h:AH}{r:FH},drawn P c ops l fr h=Y r->drawn P d ops l fr h=Y r
 | [],fr,h,r,hr=>hr
 | (j,again) :: l,fr,h,r,hr=>by
  have hr':cw P c ops j again (drawn P c ops l) fr h=Y r:=hr;show cw P d ops j again (drawn P d ops l) fr h=Y r;unfold cw at hr'⊢;cases ho:ops[j]? with
  | none=>rw[ho]at hr';cases hr'
  | some o=>
   rw[ho]at hr';simp only at hr'⊢;cases h1:iW P c ops o fr h with
   | none=>rw[h1]at hr';cases hr'
   | some fh=>
    obtain⟨fr1,h1'⟩:=fh;rw[uq hle h1];rw[h1]at hr';have hr2:cond (aV (cn P ops fr1 h1') (zB ops fr o again)) (drawn P c ops l fr1 h1') ω=Y r:=hr';show cond (aV (cn P ops fr1 h1') (zB ops fr o again)) (drawn P d ops l fr1 h1') ω=Y r;cases ha:aV (cn P ops fr1 h1') (zB ops fr o again) with
    | false=>rw[ha]at hr2;cases hr2
    | true=>rw[ha]at hr2;exact qf hle l hr2
theorem gC {c d:Code->Fr->AH->R}(hle:RC.le c d):mL.le (aR P c) (aR P d):=by
 intro g args h r hr;unfold aR at hr⊢;cases ho:orc g args h with
 | some x=>rw[ho]at hr;exact hr
 | none=>
  rw[ho]at hr;simp only at hr⊢;unfold calls at hr⊢;cases hf:P.funcs[g]? with
  | none=>rw[hf]at hr;cases hr
  | some fn=>
   rw[hf]at hr;simp only at hr⊢;unfold vI at hr⊢;cases hb:fn.body with
   | none=>rw[hb]at hr;cases hr
   | some b=>
    rw[hb]at hr;simp only at hr⊢;cases hn:Nat.ble args.length fn.ntmps with
    | false=>rw[hn]at hr;exact hr
    | true=>
     rw[hn]at hr;simp only[cond_true]at hr⊢;cases hc:c b ⟨fn.ntmps,frame 0 args .nil⟩ h with
     | none=>rw[hc]at hr;cases hr
     | some x=>rw[hle _ _ _ _ hc];rw[hc]at hr;exact hr
theorem Fw {c d:Code->Fr->AH->R}(hle:RC.le c d):RC.le (stepO P c) (stepO P d):=by
 intro x fr h r hr;unfold stepO at hr⊢
 split at hr
 .exact hr
 .exact hr
 .rename_i id ops dr;unfold Hp at hr⊢;cases dr with
  | true=>
   simp only at hr⊢;cases hp:eK P ops with
   | none=>rw[hp]at hr;cases hr
   | some l=>
    rw[hp]at hr;simp only at hr⊢;cases hd:drawn P (aR P c) ops l fr h with
    | none=>rw[hd]at hr;cases hr
    | some y=>rw[qf (gC hle) l hd];rw[hd]at hr;exact hr
  | false=>
   simp only at hr⊢;cases hd:fj P (aR P c) ops ops.toList fr h with
   | none=>rw[hd]at hr;cases hr
   | some y=>rw[ur (gC hle) _ hd];rw[hd]at hr;exact hr
 .rename_i a b;cases ha:c a fr h with
  | none=>rw[ha]at hr;cases hr
  | some y=>
   rw[hle _ _ _ _ ha];rw[ha]at hr;unfold iR at hr⊢
   split at hr
   .rename_i fr1 h1 he;cases he;exact hle _ _ _ _ hr
   .rename_i hne;obtain⟨e,fr1,h1⟩:=y;cases e with
    | normal=>exact absurd rfl (hne _ _)
    | exit _=>exact hr
    | ret=>exact hr
 .rename_i x a b;cases hx:eU x with
  | false=>rw[hx]at hr;exact hr
  | true=>
   rw[hx]at hr;simp only[cond_true]at hr⊢;unfold pP at hr⊢
   split at hr
   .exact hle _ _ _ _ hr
   .exact hle _ _ _ _ hr
   .exact hr
 .rename_i id b;cases hb:c b fr h with
  | none=>rw[hb]at hr;cases hr
  | some y=>rw[hle _ _ _ _ hb];rw[hb]at hr;exact hr
 .rename_i b;cases hb:c b fr h with
  | none=>rw[hb]at hr;cases hr
  | some y=>
   rw[hle _ _ _ _ hb];rw[hb]at hr;unfold iR at hr⊢
   split at hr
   .rename_i fr1 h1 he;cases he;exact hle _ _ _ _ hr
   .rename_i hne;obtain⟨e,fr1,h1⟩:=y;cases e with
    | normal=>exact absurd rfl (hne _ _)
    | exit _=>exact hr
    | ret=>exact hr
 .exact hr
 .exact hle _ _ _ _ hr
 .exact hr
 .exact hr
theorem fT {n m:Nat}(h:n<=m):RC.le (aK P n) (aK P m):=by
 have one:∀n,RC.le (aK P n) (aK P (n+1)):=by
  intro n
  induction n with
  | zero=>intro x fr h r hr;rw[kv]at hr;cases hr
  | succ n ih=>intro x fr h r hr;rw[be]at hr⊢;exact Fw ih x fr h r hr
 induction h with
 | refl=>exact λ_ _ _ _ hr=>hr
 | step _ ih=>exact λx fr h r hr=>one _ x fr h r (ih x fr h r hr)
def W (P:Program) (c:Code) (fr:Fr) (h:AH) (Q:mJ->Fr->AH->Prop):Prop:=∃n e fr' h',aK P n c fr h=Y (e,fr',h')/\Q e fr' h'
def WC (P:Program) (g:FuncId) (args:List Value) (h:AH) (Q:Value->AH->Prop):Prop:=∃n v h',aR P (aK P n) g args h=Y (v,h')/\Q v h'
def WO (P:Program) (ops:Array Oper) (l:List Oper) (fr:Fr) (h:AH) (Q:Fr->AH->Prop):Prop:=∃n fr' h',fj P (aR P (aK P n)) ops l fr h=Y (fr',h')/\Q fr' h'
def WD (P:Program) (ops:Array Oper) (l:List (Nat×List Nat)) (fr:Fr) (h:AH) (Q:Fr->AH->Prop):Prop:=∃n fr' h',drawn P (aR P (aK P n)) ops l fr h=Y (fr',h')/\Q fr' h'
theorem W.mono {c:Code}{fr:Fr}{h:AH}{Q Q':mJ->Fr->AH->Prop}(hw:W P c fr h Q) (hq:∀e fr' h',Q e fr' h'->Q' e fr' h'):W P c fr h Q':=
 let ⟨n,e,fr',h',a,b⟩:=hw;⟨n,e,fr',h',a,hq _ _ _ b⟩
theorem W.skip {fr:Fr}{h:AH}{Q:mJ->Fr->AH->Prop}(hq:Q .normal fr h):W P .skip fr h Q:=⟨1,_,_,_,rfl,hq⟩
theorem W.label {l:Nat}{fr:Fr}{h:AH}{Q:mJ->Fr->AH->Prop}(hq:Q .normal fr h):W P (.label l) fr h Q:=⟨1,_,_,_,rfl,hq⟩
theorem W.exit {id:Nat}{fr:Fr}{h:AH}{Q:mJ->Fr->AH->Prop}(hq:Q (.exit id) fr h):W P (.exit id) fr h Q:=⟨1,_,_,_,rfl,hq⟩
theorem W.ret {fr:Fr}{h:AH}{Q:mJ->Fr->AH->Prop}(hq:Q .ret fr h):W P .ret fr h Q:=⟨1,_,_,_,rfl,hq⟩
theorem W.scope {b:Code}{fr:Fr}{h:AH}{Q:mJ->Fr->AH->Prop}(hw:W P b fr h Q):W P (.scope b) fr h Q:=by
 obtain⟨n,e,fr',h',a,q⟩:=hw;exact⟨n+1,e,fr',h',a,q⟩
def IS (P:Program) (b:Code) (Q:mJ->Fr->AH->Prop):mJ->Fr->AH->Prop
 | .normal,fr,h=>W P b fr h Q
 | e,fr,h=>Q e fr h
theorem W.seq {a b:Code}{fr:Fr}{h:AH}{Q:mJ->Fr->AH->Prop}(hw:W P a fr h (IS P b Q)):W P (.seq a b) fr h Q:=by
 obtain⟨n,e,fr',h',ha,q⟩:=hw;cases e with
 | normal=>
  obtain⟨m,e2,fr2,h2,hb,q2⟩:=q;refine⟨max n m+1,e2,fr2,h2,?_,q2⟩;rw[be];show iR (aK P (max n m) b) (aK P (max n m) a fr h)=_;rw[fT (Nat.le_max_left n m) _ _ _ _ ha];exact fT (Nat.le_max_right n m) _ _ _ _ hb
 | exit id=>exact⟨n+1,_,fr',h',by rw[be];show iR (aK P n b) (aK P n a fr h)=_;rw[ha];rfl,q⟩
 | ret=>exact⟨n+1,_,fr',h',by rw[be];show iR (aK P n b) (aK P n a fr h)=_;rw[ha];rfl,q⟩
def qg (id:Nat) (Q:mJ->Fr->AH->Prop):mJ->Fr->AH->Prop
 | .exit i,fr,h=>if i=id then Q .normal fr h else Q (.exit i) fr h
 | e,fr,h=>Q e fr h
theorem W.block {id:Nat}{b:Code}{fr:Fr}{h:AH}{Q:mJ->Fr->AH->Prop}(hw:W P b fr h (qg id Q)):W P (.block id b) fr h Q:=by
 obtain⟨n,e,fr',h',ha,q⟩:=hw;have hc:aK P (n+1) (.block id b) fr h=i7 id (Y (e,fr',h')):=by
  rw[be];show i7 id (aK P n b fr h)=_;rw[ha]
 cases e with
 | exit i=>
  by_cases hi:i=id
  .subst hi;refine⟨n+1,.normal,fr',h',?_,by simpa[qg]using q⟩;rw[hc];simp[i7,Nat.beq_refl]
  .have:Nat.beq i id=false:=by
    cases hb:Nat.beq i id with
    | false=>rfl
    | true=>exact absurd (aq hb) hi
   refine⟨n+1,.exit i,fr',h',?_,by simpa[qg,hi]using q⟩;rw[hc];simp[i7,this]
 | normal=>exact⟨n+1,.normal,fr',h',hc,q⟩
 | ret=>exact⟨n+1,.ret,fr',h',hc,q⟩
theorem W.cond {x:Operand}{a b:Code}{fr:Fr}{h:AH}{Q:mJ->Fr->AH->Prop}(hx:eU x=true){t:Bool}(ht:ev fr x = .bool t) (ha:t=true->W P a fr h Q) (hb:t=false->W P b fr h Q):W P (.cond x a b) fr h Q:=by
 cases t with
 | true=>
  obtain⟨n,e,fr',h',h1,q⟩:=ha rfl;refine⟨n+1,e,fr',h',?_,q⟩;rw[be];show _root_.cond (eU x) (pP (λ_=>aK P n a fr h) (λ_=>aK P n b fr h) (ev fr x)) ω=_;rw[hx,ht];exact h1
 | false=>
  obtain⟨n,e,fr',h',h1,q⟩:=hb rfl;refine⟨n+1,e,fr',h',?_,q⟩;rw[be];show _root_.cond (eU x) (pP (λ_=>aK P n a fr h) (λ_=>aK P n b fr h) (ev fr x)) ω=_;rw[hx,ht];exact h1
def Hq (I:Nat->Fr->AH->Prop) (m:Nat) (Q:mJ->Fr->AH->Prop):mJ->Fr->AH->Prop
 | .normal,fr,h=>∃k,k<m/\I k fr h
 | e,fr,h=>Q e fr h
theorem W.loop {b:Code}{fr:Fr}{h:AH}{Q:mJ->Fr->AH->Prop}(I:Nat->Fr->AH->Prop) (m:Nat) (h0:I m fr h) (hr:∀m fr h,I m fr h->W P b fr h (Hq I m Q)):W P (.loop b) fr h Q:=by
 induction m using Nat.strongRecOn generalizing fr h with
 | _ m ih=>
  obtain⟨n,e,fr',h',ha,q⟩:=hr m fr h h0;cases e with
  | normal=>
   obtain⟨k,hk,hI⟩:=q;obtain⟨n2,e2,fr2,h2,hb,q2⟩:=ih k hk hI;refine⟨max n n2+1,e2,fr2,h2,?_,q2⟩;rw[be];show iR (aK P (max n n2) (.loop b)) (aK P (max n n2) b fr h)=_;rw[fT (Nat.le_max_left n n2) _ _ _ _ ha];exact fT (Nat.le_max_right n n2) _ _ _ _ hb
  | exit id=>exact⟨n+1,_,fr',h',by rw[be];show iR (aK P n (.loop b)) (aK P n b fr h)=_;rw[ha];rfl,q⟩
  | ret=>exact⟨n+1,_,fr',h',by rw[be];show iR (aK P n (.loop b)) (aK P n b fr h)=_;rw[ha];rfl,q⟩
theorem W.region {id:Nat}{ops:Array Oper}{fr:Fr}{h:AH}{Q:mJ->Fr->AH->Prop}(hw:WO P ops ops.toList fr h (λfr' h'=>Q .normal fr' h')):W P (.region id ops false) fr h Q:=by
 obtain⟨n,fr',h',ha,q⟩:=hw;exact⟨n+1,.normal,fr',h',by rw[be];show Hl (fj P (aR P (aK P n)) ops ops.toList fr h)=_;rw[ha];rfl,q⟩
theorem W.regionD {id:Nat}{ops:Array Oper}{fr:Fr}{h:AH}{Q:mJ->Fr->AH->Prop}{l:List (Nat×List Nat)}(hp:eK P ops=Y l) (hw:WD P ops l fr h (λfr' h'=>Q .normal fr' h')):W P (.region id ops true) fr h Q:=by
 obtain⟨n,fr',h',ha,q⟩:=hw;refine⟨n+1,.normal,fr',h',?_,q⟩;rw[be];show(match eK P ops with | some l=>Hl (drawn P (aR P (aK P n)) ops l fr h) | none=>ω)=_;rw[hp];show Hl (drawn P (aR P (aK P n)) ops l fr h)=_;rw[ha];rfl
theorem WO.nil {ops:Array Oper}{fr:Fr}{h:AH}{Q:Fr->AH->Prop}(hq:Q fr h):WO P ops [] fr h Q:=⟨0,fr,h,rfl,hq⟩
theorem WO.cons {ops:Array Oper}{o:Oper}{l:List Oper}{fr:Fr}{h:AH}{Q:Fr->AH->Prop}(hw:∃n fr' h',iW P (aR P (aK P n)) ops o fr h=Y (fr',h')/\WO P ops l fr' h' Q):WO P ops (o :: l) fr h Q:=by
 obtain⟨n,fr',h',ha,m,fr2,h2,hb,q⟩:=hw;refine⟨max n m,fr2,h2,?_,q⟩;show andThen (fj P (aR P (aK P (max n m))) ops l) (iW P (aR P (aK P (max n m))) ops o fr h)=_;rw[uq (gC (fT (Nat.le_max_left n m))) ha];exact ur (gC (fT (Nat.le_max_right n m))) l hb
def W1 (P:Program) (ops:Array Oper) (o:Oper) (fr:Fr) (h:AH) (K:Fr->AH->Prop):Prop:=∃n fr' h',iW P (aR P (aK P n)) ops o fr h=Y (fr',h')/\K fr' h'
theorem W1.val {ops:Array Oper}{o:Oper}{fr:Fr}{h:AH}{K:Fr->AH->Prop}{v:Value}(hg:o.guard=ω) (hc:bT o=true) (hk:aI P o = .val) (hv:rp P o fr h=Y v) (hq:K (dF fr o.dst v) h):W1 P ops o fr h K:=by
 refine⟨0,_,_,?_,hq⟩;unfold iW dE;rw[hg,hc,hk];show C6 fr h o.dst (rp P o fr h)=_;rw[hv];rfl
theorem W1.lay {ops:Array Oper}{o:Oper}{fr:Fr}{h:AH}{K:Fr->AH->Prop}{b:AO}{f:Nat->Value}(hg:o.guard=ω) (hc:bT o=true) (hk:aI P o = .lay) (hv:AU P o fr=Y (b,f)) (hq:K (dF fr o.dst (f h.next)) (h.new b)):W1 P ops o fr h K:=by
 refine⟨0,_,_,?_,hq⟩;unfold iW dE;rw[hg,hc,hk];show Fm fr h o.dst (AU P o fr)=_;rw[hv];rfl
theorem W1.loud {ops:Array Oper}{o:Oper}{fr:Fr}{h:AH}{K:Fr->AH->Prop}{v:Value}{h':AH}(hg:o.guard=ω) (hc:bT o=true) (hk:aI P o = .loud) (hv:vE P o fr h=Y (v,h')) (hq:K (dF fr o.dst v) h'):W1 P ops o fr h K:=by
 refine⟨0,_,_,?_,hq⟩;unfold iW dE;rw[hg,hc,hk];show oq P _ o fr h (vE P o fr h)=_;rw[hv];rfl
theorem W1.call {ops:Array Oper}{o:Oper}{fr:Fr}{h:AH}{K:Fr->AH->Prop}{g:FuncId}{args:List Value}(hg:o.guard=ω) (hc:bT o=true) (hk:aI P o = .loud) (hl:vE P o fr h=ω) (hcal:callee P o fr=Y (g,args))
  (hw:WC P g args h (λv h'=>K (dF fr o.dst v) h')):W1 P ops o fr h K:=by
 obtain⟨n,v,h',ha,q⟩:=hw;refine⟨n,_,_,?_,q⟩;unfold iW dE;rw[hg,hc,hk];show oq P _ o fr h (vE P o fr h)=_;rw[hl];show vF P _ o fr h (callee P o fr)=_;rw[hcal];show zA fr o.dst (aR P (aK P n) g args h)=_;rw[ha];rfl
theorem W1.wanted {ops:Array Oper}{o:Oper}{fr:Fr}{h:AH}{K:Fr->AH->Prop}(hw:dE ops fr o=true) (hq:W1 P ops { o with guard:=ω } fr h K):W1 P ops o fr h K:=by
 obtain⟨n,fr',h',ha,q⟩:=hq;refine⟨n,fr',h',?_,q⟩;unfold iW at ha⊢;rw[hw];exact ha
theorem W1.unwanted {ops:Array Oper}{o:Oper}{fr:Fr}{h:AH}{K:Fr->AH->Prop}(hw:dE ops fr o=false) (hq:K (dF fr o.dst undef) h):W1 P ops o fr h K:=by
 refine⟨0,_,_,?_,hq⟩;unfold iW;rw[hw];rfl
theorem WD.nil {ops:Array Oper}{fr:Fr}{h:AH}{Q:Fr->AH->Prop}(hq:Q fr h):WD P ops [] fr h Q:=⟨0,fr,h,rfl,hq⟩
theorem WD.op {ops:Array Oper}{j:Nat}{again:List Nat}{l:List (Nat×List Nat)}{o:Oper}{fr:Fr}{h:AH}{Q:Fr->AH->Prop}(ho:ops[j]? = Y o)
  (hw:W1 P ops o fr h (λfr' h'=>aV (cn P ops fr' h') (zB ops fr o again)=true/\WD P ops l fr' h' Q)):WD P ops ((j,again) :: l) fr h Q:=by
 obtain⟨n,fr',h',ha,hs,m,fr2,h2,hb,q⟩:=hw;refine⟨max n m,fr2,h2,?_,q⟩;show cw P (aR P (aK P (max n m))) ops j again (drawn P (aR P (aK P (max n m))) ops l) fr h=_;unfold cw;rw[ho];simp only;rw[uq (gC (fT (Nat.le_max_left n m))) ha];show cond (aV (cn P ops fr' h') (zB ops fr o again)) (drawn P (aR P (aK P (max n m))) ops l fr' h') ω=_;rw[hs];exact qf (gC (fT (Nat.le_max_right n m))) l hb
def Ky (P:Program) (fn:Func) (Q:Value->AH->Prop):mJ->Fr->AH->Prop
 | .exit _,_,_=>False
 | _,fr,h=>∃vs,iZ P fr h fn.results.toList=Y vs/\Q (one vs) h
theorem WC.orc {g:FuncId}{args:List Value}{h h':AH}{v:Value}{Q:Value->AH->Prop}(ho:orc g args h=Y (v,h')) (K:Q v h'):WC P g args h Q:=
 ⟨0,v,h',by unfold aR;rw[ho],K⟩
theorem WC.enter {g:FuncId}{fn:Func}{c:Code}{args:List Value}{h:AH}{Q:Value->AH->Prop}(ho:Eva.orc g args h=ω) (hf:P.funcs[g]? = Y fn) (hb:fn.body=Y c) (hn:args.length<=fn.ntmps) (hw:W P c ⟨fn.ntmps,frame 0 args .nil⟩ h (Ky P fn Q)):WC P g args h Q:=by
 obtain⟨n,e,fr',h',ha,q⟩:=hw;have hcall:aR P (aK P n) g args h=vH P fn (Y (e,fr',h')):=by
  unfold aR;rw[ho];simp only;unfold calls;rw[hf];simp only;unfold vI;rw[hb];simp only;rw[show Nat.ble args.length fn.ntmps=true from Nat.ble_eq_true_of_le hn,ha];rfl
 cases e with
 | exit i=>exact q.elim
 | normal=>obtain⟨vs,h1,h2⟩:=q;exact⟨n,one vs,h',by rw[hcall];simp only[vH,ko,h1],h2⟩
 | ret=>obtain⟨vs,h1,h2⟩:=q;exact⟨n,one vs,h',by rw[hcall];simp only[vH,ko,h1],h2⟩
theorem WC.calls (hm:P.follows .mixedOrders=true) (hO:dI P Eva.orc){g:FuncId}{args:List Value}{h:AH}{Q:Value->AH->Prop}(hw:WC P g args h Q){σ:aH}{w:World}{args':Array Value}(hr:HR P σ h w) (ha:br σ args args'.toList) :
  Calls P g args' w (λe w'=>∃v v' h' σ',e = .returned v'/\Q v h'/\St P σ h w σ' h' w'/\VR σ' v v'):=by
 obtain⟨n,v,h',hc,q⟩:=hw;exact(Bq hm hO hc hr ha).mono λe w' ⟨v',σ',a,b,c⟩=>⟨v,v',h',σ',a,q,b,c⟩
end
end Eva
end
section
open Go Go.RowKit
namespace Eva
noncomputable section
abbrev FF:=Nat->Option Value
def FF.put (F:FF) (d:Nat) (v:Value):FF:=λk=>cond (Nat.beq k d) (Y v) (F k)
def aF:List Value->FF
 | [],_=>ω
 | v :: _,0=>Y v
 | _ :: l,k+1=>aF l k
def bG (F:FF):Operand->Value
 | .tmp t=>cv (F t)
 | .const v=>v
 | .global g=>ξ (Y ⟨g,0,ω⟩)
 | .func f=>.func (.func f) #[] #[]
def uu (F:FF):Option Operand->Option (Option Nat)
 | none=>Y ω
 | some x=>(bW (bG F x)).map Y
def nf (P:Program) (o:Oper) (F:FF):Option Value:=
 cond (aV (λx=>pl (bG F x)) o.op.operands.toList) (ll (av P (execOp (bG F) o))) ω
def Fx (P:Program) (o:Oper) (F:FF) (d:Option TypeDesc) (x:Value) (lo hi mx:Option (Option Nat)):Option Value:=
 match x with
 | .string _=>nf P o F
 | .slice a len K=>match d,lo,hi,mx with
  | some (.slice e),Y l,Y hh,Y m=>am P e a len K l hh m
  | _,_,_,_=>ω
 | ξ (Y b)=>match d,lo,hi,mx with
  | some (.array n e),Y l,Y hh,Y ω=>tN P n e b l hh
  | _,_,_,_=>ω
 | _=>ω
def Fy (op:BinOp) (P:Program) (o:Oper) (F:FF):Bool->Option Value
 | true=>match op with
  | .eql=>Y (.bool false)
  | .neq=>Y (.bool true)
  | _=>ω
 | false=>nf P o F
def qh (P:Program) (op:BinOp) (t:TypeId) (o:Oper) (F:FF) (x y:Value):Option Value:=
 match x,y with
 | .int k a,.int l b=>cond (k == l) (sd op k a b (nf P o F)) (nf P o F)
 | _,_=>Fy op P o F (lx (P.underlying t) x y)
def IT (P:Program) (o:Oper) (F:FF) (h:AH) (d:Option TypeDesc) (x:Value):Option Value:=
 match x with
 | ψ _ n _=>cond (cV d) (Y (η ν n)) ω
 | .map (Y r)=>cond (hU d) (kj h r) ω
 | .string s=>match d with
  | some .string=>Y (η ν s.size)
  | _=>ω
 | _=>ω
def zI (c:Call) (F:FF):Option Value:=
 match c.args.toList with
 | [x]=>Y (bG F x)
 | _=>ω
def Hr (P:Program) (o:Oper) (F:FF) (h:AH) (c:Call):Option Value:=
 match c.callee with
 | .builtin .len=>match zI c F with
  | some x=>IT P o F h (fF P c) x
  | none=>ω
 | .builtin .cap=>match zI c F with
  | some x=>xX (fF P c) x
  | none=>ω
 | _=>nf P o F
def Dm (F:FF) (ps:Array (Nat×Operand)):List (Nat×Value):=ps.toList.map λp=>(p.1,bG F p.2)
def Hs (P:Program) (o:Oper) (F:FF) (h:AH) (s d:TypeId) (x:Value):Option Value:=
 match x with
 | .slice a len _=>match P.underlying s,P.underlying d with
  | some (.slice e),Y .string=>match P.underlying e with
   | some (.int .u8)=>match hY h a len with
    | some l=>match fN l with
     | some bs=>Y (.string ⟨bs.toArray⟩)
     | none=>ω
    | none=>ω
   | _=>ω
  | _,_=>ω
 | _=>nf P o F
def jP (P:Program) (o:Oper) (F:FF) (h:AH):Option Value:=
 match o.op with
 | .move x=>Y (bG F x)
 | .pick c a b=>C1 (bG F c) (bG F a) (bG F b)
 | .load t x=>iK P t (bG F x) h
 | .nilCheck x=>Fi (bG F x)
 | .makeInterface t x=>tM P t (bG F x)
 | .makeFunc fn a b=>Y (.func fn (a.map (bG F)) (b.map (bG F)))
 | .slice t x lo hi mx=>Fx P o F (P.underlying t) (bG F x) (uu F lo) (uu F hi) (uu F mx)
 | .fieldAddr s x f=>gZ P (P.underlying s) (bG F x) f
 | .field t x f=>tP P (P.underlying t) (bG F x) f
 | .indexAddr t x ix=>dV P (P.underlying t) (bG F x) (bW (bG F ix))
 | .index t x ix=>tQ P (P.underlying t) (bG F x) (bW (bG F ix))
 | .extract x i=>lq (bG F x) i
 | .lookup t x ix ok=>bp P (P.underlying t) (bG F x) (bG F ix) ok h
 | .binOp op t x y _=>qh P op t o F (bG F x) (bG F y)
 | .call c=>Hr P o F h c
 | .build t ps=>tU P (P.underlying t) (P.info? t) (Dm F ps)
 | .convert s d x=>Hs P o F h s d (bG F x)
 | .typeAssert x _ t ok=>pq P t (bG F x) ok
 | .unOp _ _ _=>nf P o F
 | _=>ω
def Fz (P:Program) (o:Oper) (F:FF):Option AT:=
 match o.op with
 | .alloc t=>tV t (P.info? t)
 | .box t x=>Fj t (bG F x)
 | .buildSlice t len ps=>fO P (P.underlying t) len (Dm F ps)
 | .makeMap t r=>Fk (P.underlying t) (r.map (bG F))
 | .makeSlice t l c=>fg P (P.underlying t) (bW (bG F l)) (bW (bG F c))
 | .convert s d x=>tW P (P.underlying s) (P.underlying d) (bG F x)
 | .range t x=>tX (P.underlying t) (bG F x)
 | _=>ω
def Dn (c:Call) (F:FF):Option (Value×Value):=
 match c.args.toList with
 | [x,y]=>Y (bG F x,bG F y)
 | _=>ω
def ym (P:Program) (F:FF) (h:AH) (c:Call):Option VH:=
 match c.callee with
 | .builtin .append=>match Dn c F with
  | some (s,x)=>ah P h (fF P c) (AW P c) s x
  | none=>ω
 | .builtin .clear=>match zI c F with
  | some x=>fi P h (fF P c) x
  | none=>ω
 | .builtin .copy=>match Dn c F with
  | some (x,s)=>jX P h (fF P c) x s
  | none=>ω
 | _=>ω
def Br (P:Program) (o:Oper) (F:FF) (h:AH):Option VH:=
 match o.op with
 | .assign x=>Y (bG F x,h)
 | .store t x v=>mQ h (P.info? t) (bG F x) (bG F v)
 | .mapUpdate t m k v=>ej P h (P.underlying t) (bG F m) (bG F k) (bG F v)
 | .insert t m k v=>ej P h (P.underlying t) (bG F m) (bG F k) (bG F v)
 | .convert s d x=>zy P h s d (bG F x)
 | .call c=>ym P F h c
 | _=>ω
def Do (P:Program) (F:FF) (c:Call):Value->Option (FuncId×List Value)
 | .func (.func g) a b=>cond (bh P g) (Y (g,a.toList ++ c.args.toList.map (bG F) ++ b.toList)) ω
 | _=>ω
def zJ (P:Program) (o:Oper) (F:FF):Option (FuncId×List Value):=
 match o.op with
 | .call c=>match c.callee with
  | .value f=>Do P F c (bG F f)
  | _=>ω
 | _=>ω
def iL (ops:Array Oper) (F:FF) (o:Oper):Bool:=
 match o.guard with
 | none=>true
 | some (j,b)=>match ops[j]? with
  | some g=>match g.dst with
   | some d=>Ku b (F d)
   | none=>false
  | none=>false
def zK (F:FF) (d:Option Tmp):Option Value->Bool
 | some v=>match d with
  | some d=>match F d with
   | some u=>EY 6 u v
   | none=>false
  | none=>true
 | none=>false
def ik (P:Program) (ops:Array Oper) (F:FF) (h:AH) (j:Nat):Bool:=
 match ops[j]? with
 | some o=>cond (looks P o.op) (cond (iL ops F o) (zK F o.dst (jP P o F h)) true) true
 | none=>false
section
variable {P:Program}{o:Oper}{fr:Fr}{h:AH}
theorem Kz:ev fr=bG fr.get:=by funext x;cases x <;>rfl
theorem IU:rp P o fr h=jP P o fr.get h:=rfl
theorem IV:AU P o fr=Fz P o fr.get:=rfl
theorem GN:vE P o fr h=Br P o fr.get h:=rfl
theorem Dp:callee P o fr=zJ P o fr.get:=rfl
theorem nh {ops:Array Oper}:dE ops fr o=iL ops fr.get o:=rfl
end
end
end Eva
end
end Go.Proofs.YtaagdjkinbemcaaGreatDoor
