/-
Lemmas for TopEntries. No condition.
-/
import Derived.Test.YtaomlhopkfmheaaGreatDoorPm
import Derived.Test.YtaomlhopkfmheaaGreatDoorPl
import Derived.Test.YtaomlhopkfmheaaGreatDoorSo1
namespace Go.Proofs.YtaomlhopkfmheaaGreatDoor
set_option linter.unusedVariables false
set_option linter.unusedSimpArgs false
set_option linter.unusedSectionVars false
set_option linter.unnecessarySimpa false
open Go Go.RowKit
namespace Eva
theorem Dt {x:Int}(h:(Lit.int .u8 x).wf=true):0<=x/\x<=255:=by
 simp[Lit.wf,IntKind.min,IntKind.max,IntKind.signed,IntKind.bits]at h
 omega
theorem entries_c {w:World}{u0 u1 u2 u ul ur:Value}{A0 A1 A2 A Al Ar:Option Addr}{n0 K0 n1 K1 n2 K2 n K nl Kl nr Kr:Nat}{N:ab}{ps:List (List Int)}{ls:List (List Chg)}{rs:List Int}{l:Int}(h0:dc (aR w) u0 = .slice A0 n0 K0) (h1:dc (aR w) u1 = .slice A1 n1 K1) (h2:dc (aR w) u2 = .slice A2 n2 K2) (Z:cz (eC w) (inW w) A0 n0 K0 A1 n1 K1 A2 n2 K2 N)
  (hn:n<=maxLen) (h3:dc (aR w) u = .slice A n K) (hs:Sz (Rc.sliceZ cI) (inW w) (eC w) A n K ps) (hnl:nl<=maxLen) (h4:dc (aR w) ul = .slice Al nl Kl) (hl:Sz (Rc.sliceZ dt) (inW w) (eC w) Al nl Kl ls) (hlv:(Lit.int .u8 l).wf=true) (hnr:nr<=maxLen) (h5:dc (aR w) ur = .slice Ar nr Kr) (hr:Sz cI (inW w) (eC w) Ar nr Kr rs) :
  Calls Tryz.prog 3 #[.agg #[u0,u1,u2],.agg #[u],ul,.int .u8 l,ur] w λe w'=>e = .returned (.bool true)/\Ext w w':=by
 have hl':=Dt hlv
 obtain⟨z,rfl⟩:=Int.eq_ofNat_of_zero_le hl'.1
 have law:=vd Z hs (by unfold maxLen at hn;omega) hl (by unfold maxLen at hnl;omega) (lv:=z) (by omega) hr
 have v0:=gz w u0
 have v1:=gz w u1
 have v2:=gz w u2
 have v3:=gz w u
 have v4:=gz w ul
 have v5:=gz w ur
 rw[h0]at v0
 rw[h1]at v1
 rw[h2]at v2
 rw[h3]at v3
 rw[h4]at v4
 rw[h5]at v5
 have hv:VRs (rH w) [.agg #[.slice A0 n0 K0,.slice A1 n1 K1,.slice A2 n2 K2],.agg #[.slice A n K],.slice Al nl Kl,.int .u8 (z:Int),.slice Ar nr Kr] [.agg #[u0,u1,u2],.agg #[u],ul,.int .u8 (z:Int),ur]:=
  .cons (VR.agg' (l:=[.slice A0 n0 K0,.slice A1 n1 K1,.slice A2 n2 K2]) (l':=[u0,u1,u2]) (.cons v0 (.cons v1 (.cons v2 (VRs.nil _))))) (.cons (VR.agg' (l:=[.slice A n K]) (l':=[u]) (.cons v3 (VRs.nil _))) (.cons v4 (.cons (.int _ _) (.cons v5 (VRs.nil _)))))
 refine(WC.calls rM Ds law (Dq Tryz.prog w) (args':=#[.agg #[u0,u1,u2],.agg #[u],ul,.int .u8 (z:Int),ur]) hv).mono λe w' hq=>?_
 obtain⟨v,v',h',σ',rfl,⟨rfl,-⟩,st,vr⟩:=hq
 cases vr
 exact⟨rfl,BR st⟩
end Eva
end Go.Proofs.YtaomlhopkfmheaaGreatDoor
