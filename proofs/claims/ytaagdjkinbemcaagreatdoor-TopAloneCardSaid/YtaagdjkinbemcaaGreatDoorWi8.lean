/-
Lemmas for TopAlone. No condition.
-/
import Derived.Test.YtaagdjkinbemcaaGreatDoorPp
import Derived.Test.YtaagdjkinbemcaaGreatDoorPo
import Derived.Test.YtaagdjkinbemcaaGreatDoorSo3
namespace Go.Proofs.YtaagdjkinbemcaaGreatDoor
open _root_.Go.IntKind renaming i64->ξ
open _root_.Go.Value renaming int->ω,slice->Y
set_option linter.unusedVariables false
set_option linter.unusedSimpArgs false
set_option linter.unusedSectionVars false
set_option linter.unnecessarySimpa false
open Go Go.RowKit
namespace Eva
theorem alone_c {w:World}{u0 u1 u2 u ul us:Value}{A0 A1 A2 A Al As:Option Addr}{n0 K0 n1 K1 n2 K2 n K nl Kl ns Ks:Nat}{N:ab}{ps:List (List Int)}{ls:List (List eQ)}{d cap lim:Int}{st:List (Int×Int)}(hH:w.cell? ⟨0,0,none⟩=some (.iface 284 (.agg #[.pointer (some ⟨7,53,none⟩)]))) (h0:dA (a7 w) u0 = Y A0 n0 K0) (h1:dA (a7 w) u1 = Y A1 n1 K1) (h2:dA (a7 w) u2 = Y A2 n2 K2) (Z:jr (eY w) (inW w) A0 n0 K0 A1 n1 K1 A2 n2 K2 N)
  (hn:n<=maxLen) (h3:dA (a7 w) u = Y A n K) (hs:Sz (Rc.sliceZ cI) (inW w) (eY w) A n K ps) (hnl:nl<=maxLen) (h4:dA (a7 w) ul = Y Al nl Kl) (hl:Sz (Rc.sliceZ gm) (inW w) (eY w) Al nl Kl ls) (h5:dA (a7 w) us = Y As ns Ks) (hj:Sz jo (inW w) (eY w) As ns Ks st) :
  Calls Tryz.prog 3 #[.agg #[u0,u1,u2],.agg #[u],ul,.agg #[ω ξ d,ω ξ cap,ω ξ lim,us]] w λe w'=>e = .returned (.bool true)/\eN w w':=by
 have law:=EO (d:=d) (cap:=cap) (lim:=lim) Z hs (by unfold maxLen at hn;omega) hl (by unfold maxLen at hnl;omega) hj;have v0:=iJ w u0;have v1:=iJ w u1;have v2:=iJ w u2;have v3:=iJ w u;have v4:=iJ w ul;have v5:=iJ w us;rw[h0]at v0;rw[h1]at v1;rw[h2]at v2;rw[h3]at v3;rw[h4]at v4;rw[h5]at v5;have hv:br (vn w) [.agg #[Y A0 n0 K0,Y A1 n1 K1,Y A2 n2 K2],.agg #[Y A n K],Y Al nl Kl,.agg #[ω ξ d,ω ξ cap,ω ξ lim,Y As ns Ks]] [.agg #[u0,u1,u2],.agg #[u],ul,.agg #[ω ξ d,ω ξ cap,ω ξ lim,us]]:=
  .cons (VR.agg' (l:=[Y A0 n0 K0,Y A1 n1 K1,Y A2 n2 K2]) (l':=[u0,u1,u2]) (.cons v0 (.cons v1 (.cons v2 (br.nil _))))) (.cons (VR.agg' (l:=[Y A n K]) (l':=[u]) (.cons v3 (br.nil _))) (.cons v4 (.cons (VR.agg' (l:=[ω ξ d,ω ξ cap,ω ξ lim,Y As ns Ks]) (l':=[ω ξ d,ω ξ cap,ω ξ lim,us]) (.cons (.int _ _) (.cons (.int _ _) (.cons (.int _ _) (.cons v5 (br.nil _)))))) (br.nil _))))
 refine(WC.calls oe Iz law (Ir Tryz.prog w hH) (args':=#[.agg #[u0,u1,u2],.agg #[u],ul,.agg #[ω ξ d,ω ξ cap,ω ξ lim,us]]) hv).mono λe w' hq=>?_;obtain⟨v,v',h',σ',rfl,⟨rfl,-⟩,st,vr⟩:=hq;cases vr;exact⟨rfl,Gw st⟩
end Eva
end Go.Proofs.YtaagdjkinbemcaaGreatDoor
