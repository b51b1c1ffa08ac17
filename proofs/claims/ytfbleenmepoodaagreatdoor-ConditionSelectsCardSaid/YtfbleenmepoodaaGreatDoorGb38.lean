/- A part of the framework and of the walks: Asm23 C78. -/
import Derived.Test.YtfbleenmepoodaaGreatDoorGb37
set_option linter.unusedSimpArgs false
set_option linter.unusedVariables false
set_option linter.unusedSectionVars false
set_option linter.defProp false
set_option maxRecDepth 100000
set_option maxHeartbeats 0
namespace Go.Gv
open Go.Proofs
variable {dq:Prop}
def yG:Tri dq Tryz.prog aV (aY (aE (List B) (a1 B)) (λ_=>True) (Cod.enc (X:=Bool)) λx y=>y=gA x.1 x.2).pt:=
 ac (ag (aa gg ae)) iB (λ_=>qma rfl) (xz rfl)
def AM:Tri dq Tryz.prog aV b_conS.pt:=xE yG rfl (λ_=>Un _)
def Ox:Tri dq Tryz.prog bi s_lab1.pt:=
 DV (by simp[Pg]) (ag (aa AM ae)) tY (λ_ _=>qma rfl) (Nh (S:=Dl [(aV,b_conS)]) rfl)
def Q7:Tri dq Tryz.prog aO (Bp 0).pt:=by
 intro O tp w vs ds H d K hO htl hsat hlen hargs hA;obtain⟨id,b,x,z,_,_,_,_,hp,_⟩:=hA;have h1:aA z<=0:=hp.1;cases z;rw[aA]at h1;omega
def PZ:∀n,Tri dq Tryz.prog aO (Bp n).pt
 | 0=>Q7
 | n+1=>DV (by simp[Pg]) (ag (aa Ox (aa (PZ n) ae))) xU (λ_ _=>qma rfl) (VT (S:=Dl [(bi,s_lab1),(aO,Bp n)]) n rfl rfl)
def U5:Tri dq Tryz.prog jy s_Labels.pt:=
 ac (ag (aa li (aa (PZ 60) ae))) wC (λ_=>qma rfl) (RX rfl rfl)
def Yf:Tri dq Tryz.prog kO s_Loose.pt:=
 ac (ag (aa li (aa qm ae))) ye (λ_=>qma rfl) (V9 rfl rfl)
end Go.Gv
namespace Go.Gv
open Go.Proofs
def tb:CC:=gq Tryz.f78 [2] {} _
def rW:List aj:=[.tmp 4, .tmp 5]
def IV:aq Tryz.prog mF [2] tb rW 42:=fo
def td:CC:=gq Tryz.f39 [1] {} _
def rY:List aj:=[.tmp 2, .tmp 3]
def IY:aq Tryz.prog jK [1] td rY 8:=fo
def lM:CC:=gq Tryz.f69 [] {} _
def lz:List aj:=[.tmp 4]
def By:aq Tryz.prog fN [] lM lz 20:=fo
def wc:CC:=gq Tryz.f80 [] {} _
def vV:List aj:=[.tmp 4]
def G1:aq Tryz.prog mC [] wc vV 17:=fo
def da:CC:=gq Tryz.f118 [1] {} _
def cX:List aj:=[.tmp 2]
def IX:aq Tryz.prog qe [1] da cX 82:=fo
def eq:CC:=gq Tryz.f94 [3] {} _
def ef:List aj:=[.tmp 6]
def LI:aq Tryz.prog yq [3] eq ef 93:=fo
def ta:CC:=gq Tryz.f68 [3] {} _
def rV:List aj:=[.tmp 6]
def IU:aq Tryz.prog mE [3] ta rV 33:=fo
def ni:CC:=gq Tryz.f30 [3] {} _
def mR:List aj:=[.tmp 6]
def CK:aq Tryz.prog kE [3] ni mR 24:=fo
def ck:CC:=gq Tryz.f31 [5,6] {} _
def cj:List aj:=[.tmp 10]
def IT:aq Tryz.prog mD [5,6] ck cj 187:=fo
def tg:CC:=gq Tryz.f11 [5,6] {} _
def sa:List aj:=[.tmp 10]
def I0:aq Tryz.prog vi [5,6] tg sa 59:=fo
end Go.Gv
