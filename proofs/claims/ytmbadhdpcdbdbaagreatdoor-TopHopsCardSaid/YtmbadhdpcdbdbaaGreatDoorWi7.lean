/-
Lemmas for TopHops. No condition.
-/
import Derived.Test.YtmbadhdpcdbdbaaGreatDoorPq
import Derived.Test.YtmbadhdpcdbdbaaGreatDoorPp
import Derived.Test.YtmbadhdpcdbdbaaGreatDoorSo1
namespace Go.Proofs.YtmbadhdpcdbdbaaGreatDoor
open _root_.Go.Value renaming slice->ω
set_option linter.unusedVariables false
set_option linter.unusedSimpArgs false
set_option linter.unusedSectionVars false
set_option linter.unnecessarySimpa false
open Go Go.RowKit
namespace Eva
theorem yu {x:Int}(h:(Lit.int .u16 x).wf=true):0<=x/\x<=65535:=by
 simp[Lit.wf,IntKind.min,IntKind.max,IntKind.signed,IntKind.bits]at h;omega
theorem hops_c {w:World}{u0 u1 u2 u ul:Value}{A0 A1 A2 A Al:Option Addr}{n0 K0 n1 K1 n2 K2 n K nl Kl:Nat}{N:ab}{ps:List (List Int)}{ls:List (List dV)}{a b:Int}(h0:dS (bg w) u0 = ω A0 n0 K0) (h1:dS (bg w) u1 = ω A1 n1 K1) (h2:dS (bg w) u2 = ω A2 n2 K2) (Z:cq (fS w) (inW w) A0 n0 K0 A1 n1 K1 A2 n2 K2 N)
  (hn:n<=maxLen) (h3:dS (bg w) u = ω A n K) (hs:Sz (Rc.sliceZ cI) (inW w) (fS w) A n K ps) (hnl:nl<=maxLen) (h4:dS (bg w) ul = ω Al nl Kl) (hl:Sz (Rc.sliceZ dQ) (inW w) (fS w) Al nl Kl ls) (hla:(Lit.int .u16 a).wf=true) (hlb:(Lit.int .u16 b).wf=true) :
  Calls Tryz.prog 3 #[.agg #[u0,u1,u2],.agg #[u],ul,.int .u16 a,.int .u16 b] w λe w'=>e = .returned (.bool true)/\my w w':=by
 have ha':=yu hla;have hb':=yu hlb;obtain⟨x,rfl⟩:=Int.eq_ofNat_of_zero_le ha'.1;obtain⟨y,rfl⟩:=Int.eq_ofNat_of_zero_le hb'.1;have law:=Eb Z hs (by unfold maxLen at hn;omega) hl (by unfold maxLen at hnl;omega) (a:=x) (b:=y) U U;have v0:=jh w u0;have v1:=jh w u1;have v2:=jh w u2;have v3:=jh w u;have v4:=jh w ul;rw[h0]at v0;rw[h1]at v1;rw[h2]at v2;rw[h3]at v3;rw[h4]at v4;have hv:bz (tk w) [.agg #[ω A0 n0 K0,ω A1 n1 K1,ω A2 n2 K2],.agg #[ω A n K],ω Al nl Kl,.int .u16 (x:Int),.int .u16 (y:Int)] [.agg #[u0,u1,u2],.agg #[u],ul,.int .u16 (x:Int),.int .u16 (y:Int)]:=
  .cons (VR.agg' (l:=[ω A0 n0 K0,ω A1 n1 K1,ω A2 n2 K2]) (l':=[u0,u1,u2]) (.cons v0 (.cons v1 (.cons v2 (bz.nil _))))) (.cons (VR.agg' (l:=[ω A n K]) (l':=[u]) (.cons v3 (bz.nil _))) (.cons v4 (.cons (.int _ _) (.cons (.int _ _) (bz.nil _)))))
 refine(WC.calls tv FX law (FV Tryz.prog w) (args':=#[.agg #[u0,u1,u2],.agg #[u],ul,.int .u16 (x:Int),.int .u16 (y:Int)]) hv).mono λe w' hq=>?_;obtain⟨v,v',h',σ',rfl,⟨rfl,-⟩,st,vr⟩:=hq;cases vr;exact⟨rfl,Ec st⟩
end Eva
end Go.Proofs.YtmbadhdpcdbdbaaGreatDoor
