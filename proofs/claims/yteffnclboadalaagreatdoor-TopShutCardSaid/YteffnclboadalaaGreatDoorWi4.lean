/-
A part of the proof of TopShut: lemmas that the last text joins. No condition.
-/
import Derived.Test.YteffnclboadalaaGreatDoorPp
import Derived.Test.YteffnclboadalaaGreatDoorPo
import Derived.Test.YteffnclboadalaaGreatDoorSo1
namespace Go.Proofs.YteffnclboadalaaGreatDoor
set_option linter.unusedVariables false
set_option linter.unusedSimpArgs false
set_option linter.unusedSectionVars false
set_option linter.unnecessarySimpa false
open Go Go.RowKit
namespace Eva
theorem wf_u16t {x:Int} (h:(Lit.int .u16 x).wf=true):0≤x∧x≤65535:=by
 simp [Lit.wf,IntKind.min,IntKind.max,IntKind.signed,IntKind.bits] at h
 omega
theorem wf_u8t {x:Int} (h:(Lit.int .u8 x).wf=true):0≤x∧x≤255:=by
 simp [Lit.wf,IntKind.min,IntKind.max,IntKind.signed,IntKind.bits] at h
 omega
theorem shut_c {w:World} {u0 u1 u2 u:Value} {A0 A1 A2 A:Option Addr} {n0 K0 n1 K1 n2 K2 n K:Nat} {N:NetD} {ps:List (List Int)} {l a b:Int} (h0:imgV (cellB w) u0 = .slice A0 n0 K0) (h1:imgV (cellB w) u1 = .slice A1 n1 K1) (h2:imgV (cellB w) u2 = .slice A2 n2 K2) (Z:NetZ (imgH w) (inW w) A0 n0 K0 A1 n1 K1 A2 n2 K2 N)
  (hn:n≤maxLen) (h3:imgV (cellB w) u = .slice A n K) (hs:Sz (Rc.sliceZ cI) (inW w) (imgH w) A n K ps) (hl:(Lit.int .u8 l).wf=true) (ha:(Lit.int .u16 a).wf=true) (hb:(Lit.int .u16 b).wf=true) :
  Calls Tryz.prog 3 #[.agg #[u0,u1,u2],.agg #[u],.int .u8 l,.int .u16 a,.int .u16 b] w fun e w'=>e = .returned (.bool true)∧Ext w w':=by
 have hl':=wf_u8t hl
 have ha':=wf_u16t ha
 have hb':=wf_u16t hb
 obtain ⟨z,rfl⟩:=Int.eq_ofNat_of_zero_le hl'.1
 obtain ⟨x,rfl⟩:=Int.eq_ofNat_of_zero_le ha'.1
 obtain ⟨y,rfl⟩:=Int.eq_ofNat_of_zero_le hb'.1
 have law:=lawShut Z hs (by unfold maxLen at hn; omega) (l:=z) (a:=x) (b:=y) (by omega) (by omega) (by omega)
 have v0:=imgV_vr w u0
 have v1:=imgV_vr w u1
 have v2:=imgV_vr w u2
 have v3:=imgV_vr w u
 rw [h0] at v0
 rw [h1] at v1
 rw [h2] at v2
 rw [h3] at v3
 have hv:VRs (imgR w) [.agg #[.slice A0 n0 K0,.slice A1 n1 K1,.slice A2 n2 K2],.agg #[.slice A n K],.int .u8 (z:Int),.int .u16 (x:Int),.int .u16 (y:Int)] [.agg #[u0,u1,u2],.agg #[u],.int .u8 (z:Int),.int .u16 (x:Int),.int .u16 (y:Int)]:=
  .cons (VR.agg' (l:=[.slice A0 n0 K0,.slice A1 n1 K1,.slice A2 n2 K2]) (l':=[u0,u1,u2]) (.cons v0 (.cons v1 (.cons v2 (VRs.nil _))))) (.cons (VR.agg' (l:=[.slice A n K]) (l':=[u]) (.cons v3 (VRs.nil _))) (.cons (.int _ _) (.cons (.int _ _) (.cons (.int _ _) (VRs.nil _)))))
 refine (WC.calls mixed orc_ok law (img_hr Tryz.prog w) (args':=#[.agg #[u0,u1,u2],.agg #[u],.int .u8 (z:Int),.int .u16 (x:Int),.int .u16 (y:Int)]) hv).mono fun e w' hq=>?_
 obtain ⟨v,v',h',σ',rfl,⟨rfl,-⟩,st,vr⟩:=hq
 cases vr
 exact ⟨rfl,img_ext st⟩
end Eva
end Go.Proofs.YteffnclboadalaaGreatDoor
