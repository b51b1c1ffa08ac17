/- Sh4 -/
import Derived.Shelf.SlLaysNS
import Derived.Ground.SlgnProg
import Derived.Test.YtilfeahoefpgcaaGreatDoorProg
import Derived.Shelf.SlIterI.Sorted
import Derived.DataShut
import Derived.Test.YtilfeahoefpgcaaGreatDoorGc26
set_option linter.all false
set_option maxRecDepth 100000
set_option maxHeartbeats 0
open Bool renaming forall_bool → fB', exists_bool → eB'
namespace Go.Proofs
open Go.Shelf
def Tryz.sortSource_ren:Go.Shelf.Ren:=⟨λ|6=>122|15=>142|14=>188|28=>208|29=>209|20=>244|21=>245|22=>246|23=>247|24=>248|25=>249|26=>250|27=>251|46=>282|47=>262|48=>263|49=>283|50=>284|57=>304|n=>n,λ|22=>50|24=>59|25=>132|3=>3|39=>137|0=>0|53=>255|55=>257|4=>4|46=>249|45=>248|50=>86|5=>5|9=>9|66=>294|70=>298|76=>324|77=>159|n=>n,λ|n=>n⟩
theorem Tryz.sortSource:Go.Proofs.SlLaysF0.n6 Tryz.prog Tryz.sortSource_ren:={
 mixed:=by kernel_rfl
 f6:=⟨Tryz.f122.name,by decide,Tryz.func122.trans (congrArg some (by kernel_rfl))⟩
 f14:=⟨Tryz.f188.name,by decide,Tryz.func188.trans (congrArg some (by kernel_rfl))⟩
 f15:=Tryz.func142.trans (congrArg some (by kernel_rfl))
 f20:=⟨Tryz.f244.name,by decide,Tryz.func244.trans (congrArg some (by kernel_rfl))⟩
 f21:=⟨Tryz.f245.name,by decide,Tryz.func245.trans (congrArg some (by kernel_rfl))⟩
 f22:=⟨Tryz.f246.name,by decide,Tryz.func246.trans (congrArg some (by kernel_rfl))⟩
 f23:=⟨Tryz.f247.name,by decide,Tryz.func247.trans (congrArg some (by kernel_rfl))⟩
 f24:=⟨Tryz.f248.name,by decide,Tryz.func248.trans (congrArg some (by kernel_rfl))⟩
 f25:=⟨Tryz.f249.name,by decide,Tryz.func249.trans (congrArg some (by kernel_rfl))⟩
 f26:=⟨Tryz.f250.name,by decide,Tryz.func250.trans (congrArg some (by kernel_rfl))⟩
 f27:=⟨Tryz.f251.name,by decide,Tryz.func251.trans (congrArg some (by kernel_rfl))⟩
 f28:=Tryz.func208.trans (congrArg some (by kernel_rfl))
 f29:=Tryz.func209.trans (congrArg some (by kernel_rfl))
 f46:=⟨Tryz.f282.name,by decide,Tryz.func282.trans (congrArg some (by kernel_rfl))⟩
 f47:=Tryz.func262.trans (congrArg some (by kernel_rfl))
 f48:=Tryz.func263.trans (congrArg some (by kernel_rfl))
 f49:=⟨Tryz.f283.name,by decide,Tryz.func283.trans (congrArg some (by kernel_rfl))⟩
 f50:=⟨Tryz.f284.name,by decide,Tryz.func284.trans (congrArg some (by kernel_rfl))⟩
 f57:=⟨Tryz.f304.name,by decide,Tryz.func304.trans (congrArg some (by kernel_rfl))⟩
 t0:=Tryz.underlying0
 a0:=Tryz.isAgg0
 z0:=Tryz.sizeOf0
 v0:=Tryz.zeroValue0
 t3:=Tryz.underlying3
 a3:=Tryz.isAgg3
 z3:=Tryz.sizeOf3
 v3:=Tryz.zeroValue3
 t4:=Tryz.underlying4
 a4:=Tryz.isAgg4
 z4:=Tryz.sizeOf4
 v4:=Tryz.zeroValue4
 t5:=Tryz.underlying5
 a5:=Tryz.isAgg5
 z5:=Tryz.sizeOf5
 v5:=Tryz.zeroValue5
 t9:=Tryz.underlying9
 a9:=Tryz.isAgg9
 z9:=Tryz.sizeOf9
 v9:=Tryz.zeroValue9
 t22:=Tryz.underlying50
 a22:=Tryz.isAgg50
 z22:=Tryz.sizeOf50
 v22:=Tryz.zeroValue50
 t25:=Tryz.underlying132
 a25:=Tryz.isAgg132
 z25:=Tryz.sizeOf132
 v25:=Tryz.zeroValue132
 t39:=Tryz.underlying137
 a39:=Tryz.isAgg137
 z39:=Tryz.sizeOf137
 v39:=Tryz.zeroValue137
 t45:=Tryz.underlying248
 a45:=Tryz.isAgg248
 z45:=Tryz.sizeOf248
 v45:=Tryz.zeroValue248
 t46:=Tryz.underlying249
 a46:=Tryz.isAgg249
 z46:=Tryz.sizeOf249
 v46:=Tryz.zeroValue249
 t50:=Tryz.underlying86
 a50:=Tryz.isAgg86
 z50:=Tryz.sizeOf86
 v50:=Tryz.zeroValue86
 t53:=Tryz.underlying255
 a53:=Tryz.isAgg255
 z53:=Tryz.sizeOf255
 v53:=Tryz.zeroValue255
 t55:=Tryz.underlying257
 a55:=Tryz.isAgg257
 z55:=Tryz.sizeOf257
 v55:=Tryz.zeroValue257
 t66:=Tryz.underlying294
 a66:=Tryz.isAgg294
 z66:=Tryz.sizeOf294
 v66:=Tryz.zeroValue294
 t70:=Tryz.underlying298
 a70:=Tryz.isAgg298
 z70:=Tryz.sizeOf298
 v70:=Tryz.zeroValue298
 t76:=Tryz.underlying324
 a76:=Tryz.isAgg324
 z76:=Tryz.sizeOf324
 v76:=Tryz.zeroValue324
 t77:=Tryz.underlying159
 a77:=Tryz.isAgg159
 z77:=Tryz.sizeOf159
 v77:=Tryz.zeroValue159 }
def Tryz.sortInt_ren:Go.Shelf.Ren:=⟨λ|53=>72|64=>142|63=>141|78=>208|79=>209|70=>200|71=>201|72=>202|73=>203|74=>204|75=>205|59=>69|76=>206|77=>207|88=>261|89=>262|90=>263|91=>264|92=>265|68=>139|96=>294|n=>n,λ|22=>22|23=>3|3=>3|51=>137|0=>0|67=>255|69=>257|4=>4|61=>249|60=>248|44=>86|5=>5|9=>9|75=>294|79=>298|83=>324|84=>159|n=>n,λ|n=>n⟩
theorem Tryz.sortInt:Go.Proofs.SlLaysN.n53 Tryz.prog Tryz.sortInt_ren:={
 mixed:=by kernel_rfl
 f53:=⟨Tryz.f72.name,by decide,Tryz.func72.trans (congrArg some (by kernel_rfl))⟩
 f59:=⟨Tryz.f69.name,by decide,Tryz.func69.trans (congrArg some (by kernel_rfl))⟩
 f63:=⟨Tryz.f141.name,by decide,Tryz.func141.trans (congrArg some (by kernel_rfl))⟩
 f64:=Tryz.func142.trans (congrArg some (by kernel_rfl))
 f68:=⟨Tryz.f139.name,by decide,Tryz.func139.trans (congrArg some (by kernel_rfl))⟩
 f70:=⟨Tryz.f200.name,by decide,Tryz.func200.trans (congrArg some (by kernel_rfl))⟩
 f71:=⟨Tryz.f201.name,by decide,Tryz.func201.trans (congrArg some (by kernel_rfl))⟩
 f72:=⟨Tryz.f202.name,by decide,Tryz.func202.trans (congrArg some (by kernel_rfl))⟩
 f73:=⟨Tryz.f203.name,by decide,Tryz.func203.trans (congrArg some (by kernel_rfl))⟩
 f74:=⟨Tryz.f204.name,by decide,Tryz.func204.trans (congrArg some (by kernel_rfl))⟩
 f75:=⟨Tryz.f205.name,by decide,Tryz.func205.trans (congrArg some (by kernel_rfl))⟩
 f76:=⟨Tryz.f206.name,by decide,Tryz.func206.trans (congrArg some (by kernel_rfl))⟩
 f77:=⟨Tryz.f207.name,by decide,Tryz.func207.trans (congrArg some (by kernel_rfl))⟩
 f78:=Tryz.func208.trans (congrArg some (by kernel_rfl))
 f79:=Tryz.func209.trans (congrArg some (by kernel_rfl))
 f88:=⟨Tryz.f261.name,by decide,Tryz.func261.trans (congrArg some (by kernel_rfl))⟩
 f89:=Tryz.func262.trans (congrArg some (by kernel_rfl))
 f90:=Tryz.func263.trans (congrArg some (by kernel_rfl))
 f91:=⟨Tryz.f264.name,by decide,Tryz.func264.trans (congrArg some (by kernel_rfl))⟩
 f92:=⟨Tryz.f265.name,by decide,Tryz.func265.trans (congrArg some (by kernel_rfl))⟩
 f96:=⟨Tryz.f294.name,by decide,Tryz.func294.trans (congrArg some (by kernel_rfl))⟩
 t0:=Tryz.underlying0
 a0:=Tryz.isAgg0
 z0:=Tryz.sizeOf0
 v0:=Tryz.zeroValue0
 t3:=Tryz.underlying3
 a3:=Tryz.isAgg3
 z3:=Tryz.sizeOf3
 v3:=Tryz.zeroValue3
 t4:=Tryz.underlying4
 a4:=Tryz.isAgg4
 z4:=Tryz.sizeOf4
 v4:=Tryz.zeroValue4
 t5:=Tryz.underlying5
 a5:=Tryz.isAgg5
 z5:=Tryz.sizeOf5
 v5:=Tryz.zeroValue5
 t9:=Tryz.underlying9
 a9:=Tryz.isAgg9
 z9:=Tryz.sizeOf9
 v9:=Tryz.zeroValue9
 t22:=Tryz.underlying22
 a22:=Tryz.isAgg22
 z22:=Tryz.sizeOf22
 v22:=Tryz.zeroValue22
 t23:=Tryz.underlying3
 a23:=Tryz.isAgg3
 z23:=Tryz.sizeOf3
 v23:=Tryz.zeroValue3
 t44:=Tryz.underlying86
 a44:=Tryz.isAgg86
 z44:=Tryz.sizeOf86
 v44:=Tryz.zeroValue86
 t51:=Tryz.underlying137
 a51:=Tryz.isAgg137
 z51:=Tryz.sizeOf137
 v51:=Tryz.zeroValue137
 t60:=Tryz.underlying248
 a60:=Tryz.isAgg248
 z60:=Tryz.sizeOf248
 v60:=Tryz.zeroValue248
 t61:=Tryz.underlying249
 a61:=Tryz.isAgg249
 z61:=Tryz.sizeOf249
 v61:=Tryz.zeroValue249
 t67:=Tryz.underlying255
 a67:=Tryz.isAgg255
 z67:=Tryz.sizeOf255
 v67:=Tryz.zeroValue255
 t69:=Tryz.underlying257
 a69:=Tryz.isAgg257
 z69:=Tryz.sizeOf257
 v69:=Tryz.zeroValue257
 t75:=Tryz.underlying294
 a75:=Tryz.isAgg294
 z75:=Tryz.sizeOf294
 v75:=Tryz.zeroValue294
 t79:=Tryz.underlying298
 a79:=Tryz.isAgg298
 z79:=Tryz.sizeOf298
 v79:=Tryz.zeroValue298
 t83:=Tryz.underlying324
 a83:=Tryz.isAgg324
 z83:=Tryz.sizeOf324
 v83:=Tryz.zeroValue324
 t84:=Tryz.underlying159
 a84:=Tryz.isAgg159
 z84:=Tryz.sizeOf159
 v84:=Tryz.zeroValue159 }
end Go.Proofs
namespace Go.Gv
open Go.Proofs
def sS:CC:=gq Tryz.f63 [2,3] {} _
def sk:List ak:=[.tmp 4]
def Kn:FO uT [2,3] sS sk 17:=fo
def qN:CC:=gq Tryz.f25 [2] {} _
def qi:List ak:=[.tmp 4]
def Ic:FO sD [2] qN qi 37:=fo
def vx:CC:=gq Tryz.f9 [3,4] { bx:=[99,100] } _
def uw:List ak:=[.tmp 6, .tmp 7]
def MF:FO rp [3,4] vx uw 101:=fo
def Aa:CC:=gq Tryz.f33 [2,3] {} _
def yT:List ak:=[.tmp 4, .tmp 5]
def Sh:FO BW [2,3] Aa yT 50:=fo
def sY:CC:=gq Tryz.f10 [3] {} _
def sx:List ak:=[.tmp 4]
def Kt:FO uY [3] sY sx 36:=fo
def vB:CC:=gq Tryz.f11 [] {} _
def uz:List ak:=[.tmp 0]
def MJ:FO wY [] vB uz 60:=fo
def fM:CC:=gq Tryz.f64 [3] {} _
def fG:List ak:=[.tmp 4]
def vR:FO gC [3] fM fG 9:=fo
def iV:CC:=gq Tryz.f127 [3] {} _
def iC:List ak:=[.tmp 4]
def za:FO jF [3] iV iC 19:=fo
def fD:CC:=gq Tryz.f28 [] {} _
def fw:List ak:=[.tmp 4, .tmp 5]
def uG:FO fL [] fD fw 54:=fo
def sZ:CC:=gq Tryz.f69 [] {} _
def sy:List ak:=[.tmp 4]
def Ku:FO uZ [] sZ sy 17:=fo
def mj:CC:=gq Tryz.f70 [] {} _
def lQ:List ak:=[.tmp 2]
def CX:FO nj [] mj lQ 6:=fo
def nz:CC:=gq Tryz.f85 [2,3] {} _
def nc:List ak:=[.tmp 4, .tmp 5]
def Ef:FO pj [2,3] nz nc 43:=fo
def pK:CC:=gq Tryz.f149 [2,3] {} _
def oo:List ak:=[.tmp 4, .tmp 5]
def Gh:FO qD [2,3] pK oo 17:=fo
def qT:CC:=gq Tryz.f3 [] {} _
def qo:List ak:=[.tmp 6]
def Ii:FO Aq [] qT qo 106:=fo
open Cod (enc dec)
variable {S S0:Nat->Spc}
def Ls(h1:S eO=nR)(h2:S pr=yD):am sS sk S (a2 Span Span) (λ_=>True) (enc (X:=Int)) λx y=>y=tg x.1 x.2:=by
 rintro⟨a,b⟩ -;simp[sS,sk,h1,h2,tg];by_cases h:NB a.b b.b=0
 ·by_cases h':NB a.e b.e=0
  ·simp[h,h']
  ·simp[h,h']
 ·simp[h]
def Wd(l:List Span)(s:Span):Bool:=l.any λz=>decide (z=s)
def It{l:List Span}{s:Span} :Wd l s=true↔s∈l:=by simp[Wd]
abbrev Z0:Spc:=aL (a2 (List Span) Span) (λ_=>True) (enc (X:=Int)) λx y=>y=eX x.1 λz=>decide (z=x.2)
theorem Lv:am iV iC S (a2 (List Span) Span) (λ_=>True) (enc (X:=Int)) λx y=>y=eX x.1 λz=>decide (z=x.2):=by
 rintro⟨l,s⟩ -;simp[iV,iC,-fB',-eB'];intro _;refine ah (X:=Unit) [0,3] [] l.length (λk _=>∀x∈l.take k,decide (x=s)=false) (λ_=>[]) (λ_=>[]) () (by simp) ?_ ?_
 ·intro k _ hk hP;obtain⟨x,hx⟩:=ed hk;obtain⟨_,hgx⟩:=qzP.1 hx;simp[hk,hx,hgx,-fB',-eB'];have hpe:s.b=x.b->s.e=x.e->x=s:=λh1 h2=>by
   obtain⟨a,b⟩:=x;obtain⟨a',b'⟩:=s;simp only at h1 h2;rw[h1,h2]
  refine⟨λh1 h2=>(tG hx (by simp[hpe h1 h2]) hP).symm,λh=>?_⟩;rw[av hx];intro z hz;rcases qzZ.1 hz with hz|hz
  ·have:=hP z hz;simpa using this
  ·simp at hz;subst hz;intro e;subst e;exact h rfl rfl
 ·intro _ hP;simp at hP;simp;exact(lH (λx hx=>by simp[hP x hx])).symm
abbrev Z5:Spc:=aL (a2 (List Span) Span) (λ_=>True) (enc (X:=Bool)) λx y=>y=Wd x.1 x.2
def Fo(h1:S jF=Z0):am fM fG S (a2 (List Span) Span) (λ_=>True) (enc (X:=Bool)) λx y=>y=Wd x.1 x.2:=by
 rintro⟨l,s⟩ -;simp[fM,fG,h1,-fB',-eB'];exact zw _ l
def qfe(F l:List Span)(k:Nat):Prop:=∀x,l[k]? =some x->x∈F/\∀y,0<k->l[k -1]? =some y->tg y x< 0
def qdg(F l:List Span):Prop:=∀k,qfe F l k
def Tn(x:Qry×List Span)(y:Int):Prop:=∃F,jh x.1.pat F/\(y=0/\qdg F x.2\/y=18/\ ¬qdg F x.2)
abbrev Aj:Spc:=aL (a2 Qry (List Span)) (λx=>mV x.1.pat/\x.2.length<=100000) (enc (X:=Int)) Tn
theorem JW(h1:S lK=qb)(h2:S uT=mW)(h3:S gC=Z5):am qN qi S (a2 Qry (List Span)) (λx=>mV x.1.pat/\x.2.length<=100000) (enc (X:=Int)) Tn:=by
 rintro⟨q,l⟩ ⟨hp,hl⟩;have hp:mV q.pat:=hp;have hl:l.length<=100000:=hl;simp[qN,qi,h1,h2,h3,hp,-fB',-eB'];intro F hF hll;refine ah (X:=Unit) [1,5,11] [] l.length (λk _=>∀j,j<k->qfe F l j) (λ_=>[]) (λ_=>[]) () (by simp) ?_ ?_
 ·intro k _ hk hP;obtain⟨x,hx⟩:=ed hk;obtain⟨_,hgx⟩:=qzP.1 hx;have snoc:qfe F l k->∀j,j<k+1->qfe F l j:=λh j hj=>by
   rcases Nat.lt_succ_iff_lt_or_eq.1 hj with h1|rfl
   ·exact hP j h1
   ·exact h
  have bad:¬qfe F l k->Tn (q,l) 18:=λh=>⟨F,hF, .inr ⟨rfl,λh2=>h (h2 k)⟩⟩
  have nin:Wd F x=false->Tn (q,l) 18:=λh=>bad λh2=>by
   have:=It.2 (h2 x hx).1;rw[h]at this;cases this
  rcases qAX k with rfl|hk0
  ·simp[hk,hx,hgx,h2,h3,-fB',-eB'];exact⟨nin,λh z hz=>by rw[hx]at hz;cases hz;exact⟨It.1 h,λ_ h0=>by omega⟩⟩
  ·obtain⟨y,hy⟩:=ed (show k -1<l.length by omega);obtain⟨_,hgy⟩:=qzP.1 hy;simp[hk,hx,hgx,h2,h3,hk0,hy,hgy,-fB',-eB'];refine⟨⟨by omega,by omega⟩,by omega,by omega,λhc=>⟨nin,λh=>snoc λz hz=>?_⟩,λhc=>bad λh2=>?_⟩
   ·rw[hx]at hz;cases hz;exact⟨It.1 h,λy' _ hy'=>by rw[hy]at hy';cases hy';exact hc⟩
   ·have:=(h2 x hx).2 y hk0 hy;omega
 ·intro _ hP;simp;exact⟨F,hF, .inl ⟨rfl,λk=>by
   by_cases h:k<l.length
   ·exact hP k h
   ·intro x hx;rw[qAm (by simpa using h)]at hx;cases hx⟩⟩
def X2(h1:S mT=rX):am sZ sy S (a2 Int Int) (λ_=>True) (enc (X:=Bool)) λx y=>y=decide (x.1<x.2):=by
 rintro⟨a,b⟩ -;simp[sZ,sy,h1]
def yY{l:List Int}(hs:l.Pairwise (· < ·)){i j:Nat}{a b:Int}(h:i<j)(ha:l[i]? =some a)(hb:l[j]? =some b):a<b:=by
 obtain⟨h1,rfl⟩:=qzP.1 ha;obtain⟨h2,rfl⟩:=qzP.1 hb;exact qA1.1 hs i j h1 h2 h
abbrev qem:Spc:=aL (a1 Int) (λ_=>True) (enc (X:=Bool)) λ_ y=>y=false
def qlt:am mj lQ S (a1 Int) (λ_=>True) (enc (X:=Bool)) λ_ y=>y=false:=by
 rintro a -;simp[mj,lQ]
abbrev qeF:Spc:=aL (a2 Int Int) (λ_=>True) (enc (X:=Bool)) λx y=>y=decide (x.1<x.2)
abbrev qeM:Spc:=aL (a2 (List Int) Int) (λx=>x.1.Pairwise (· < ·)/\x.1.length<=1000000) (lL (Y:=Int) (Z:=Bool)) λx y=>y.2=decide (x.2∈x.1)
theorem qlB(h1:S uZ=qeF)(h2:S nj=qem):am fD fw S (a2 (List Int) Int) (λx=>x.1.Pairwise (· < ·)/\x.1.length<=1000000) (lL (Y:=Int) (Z:=Bool)) λx y=>y.2=decide (x.2∈x.1):=by
 rintro⟨l,x⟩ ⟨hs,hl⟩;have hs:l.Pairwise (· < ·):=hs;have hl:l.length<=1000000:=hl;simp[fD,fw,h1,h2,-fB',-eB'];intro hll;refine ay (X:=Nat×Nat) [0,1,6] [] (λz=>z.1<=z.2/\z.2<=l.length/\(∀k v,k<z.1->l[k]? =some v->v<x)/\∀k v,z.2<=k->l[k]? =some v->x<=v) (λz=>[(7,enc (z.1:Int)),(8,enc (z.2:Int))]) (λ_=>[]) (λz=>z.2 -z.1) (0,l.length) ⟨qAk _,qzX _,λk v h=>by omega,λk v h h2=>by rw[qAm h]at h2;cases h2⟩ ?_;rintro⟨i,j⟩ ⟨p1,p2,p3,p4⟩;simp only at p1 p2 p3 p4;have e0:Yt .u64 (IntKind.u64.wrap ((i:Int) +j)) 1=(((i+j) /2:Nat):Int):=by
  rw[InR.wrap (show InR .u64 ((i:Int) +j)from⟨by omega,by omega⟩)];show Int.fdiv _ (2^1)=_;rw[Int.fdiv_eq_ediv_of_nonneg _ (by decide)];omega
 have e1:IntKind.i64.wrap (((i:Int) +j) /2)=(((i+j) /2:Nat):Int):=by
  rw[InR.wrap (show InR .i64 (((i:Int) +j) /2)from⟨by omega,by omega⟩)];omega
 by_cases hij:i<j
 ·obtain⟨y,hy⟩:=ed (show(i+j) /2<l.length by omega);obtain⟨_,hgy⟩:=qzP.1 hy;simp[h1,hij,e0,-fB',-eB'];rw[e1];refine⟨⟨by omega,by omega⟩,by omega,by omega,λa ha=>?_⟩;rw[qB4,hy]at ha;cases ha;refine⟨λh=>⟨⟨by omega,by omega⟩,(i+j) /2+1,j,⟨by omega,p2,λk v hk hv=>?_,p4⟩,⟨by omega,rfl⟩,by omega⟩,λh=>⟨i,(i+j) /2,⟨by omega,by omega,p3,λk v hk hv=>?_⟩,⟨rfl,rfl⟩,by omega⟩⟩
  ·rcases Nat.lt_or_ge k ((i+j) /2)with h5|h5
   ·have:=yY hs h5 hv hy;omega
   ·have:k=(i+j) /2:=by omega
    subst this;rw[hy]at hv;cases hv;exact h
  ·rcases Nat.lt_or_ge ((i+j) /2) k with h5|h5
   ·have:=yY hs h5 hy hv;omega
   ·have:k=(i+j) /2:=by omega
    subst this;rw[hy]at hv;cases hv;exact h
 ·have hij2:j=i:=by omega
  subst hij2;by_cases hj:j<l.length
  ·obtain⟨y,hy⟩:=ed hj;obtain⟨_,hgy⟩:=qzP.1 hy;have hjI:(j:Int)<l.length:=by omega
   by_cases hyx:y=x
   ·simp[h1,h2,hjI,hj,hy,hgy,hyx,-fB',-eB'];exact qzS (hyx ▸hy)
   ·simp[h1,h2,hjI,hj,hy,hgy,hyx,-fB',-eB'];intro hm;obtain⟨k,hk⟩:=qAj.1 hm;have:=p4 j y (qzX _) hy;rcases Nat.lt_or_ge k j with h5|h5
    ·have:=p3 k x h5 hk;omega
    ·rcases Nat.lt_or_eq_of_le h5 with h6|h6
     ·have:=yY hs h6 hy hk;omega
     ·subst h6;rw[hy]at hk;cases hk;exact hyx rfl
  ·have hjI:¬(j:Int)<l.length:=by omega
   simp[h1,h2,hjI,hj,-fB',-eB'];intro hm;obtain⟨k,hk⟩:=qAj.1 hm;have:=(qzP.1 hk).1;have:=p3 k x (by omega) hk;omega
end Go.Gv
namespace Go.Gv
variable {dq:Prop}
open Cod (enc dec)
open Go.Proofs Go.Shelf Go.RowKit Go.Maps Go.Sort
def qmH(g:Nat):PT:=λd ds H K=>∃id x es,ds=[.own id x]/\H id=some (.mrow x es)/\∀b,K (.clo g [.bptr d b 0]) (ai H d (some (.box b [.own id x])))
def qcC(g:Nat):qZ (qmH g):=λd ds H K K' hk ⟨id,x,es,h1,h2,h3⟩=>⟨id,x,es,h1,h2,λb=>hk _ _ (h3 b)⟩
def qaE(g:Nat):Spc:= .gen _ (qcC g)
def VV(g d:Nat)(id:Nat)(x:Value)(r:Option Res)(H:ab)(K:D->ab->Prop):Prop:=match r with
 |some (.mrow x' es)=>x'=x/\∀b,K (.clo g [.bptr d b 0]) (ai H d (some (.box b [.own id x'])))
 | _=>False
@[simp] theorem qsQ(g d id:Nat)(x x':Value)(es:List D)(H:ab)(K:D->ab->Prop):VV g d id x (some (.mrow x' es)) H K=(x'=x/\∀b,K (.clo g [.bptr d b 0]) (ai H d (some (.box b [.own id x'])))):=i' rfl
@[congr] theorem qpP{g d id:Nat}{x:Value}{r r':Option Res}{H:ab}{K:D->ab->Prop}(h:r=r'):VV g d id x r H K=VV g d id x r' H K:=by subst h;rfl
@[simp] theorem qpQ(g d i:Nat)(x:Value)(H:ab)(K:D->ab->Prop):(qaE g).pt d [.own i x] H K=VV g d i x (H i) H K:=by
 refine propext ⟨λh=>?_,λh=>?_⟩
 ·obtain⟨id,x',es,h1,h2,h3⟩:=h;cases h1;rw[h2];exact⟨rfl,h3⟩
 ·unfold VV at h;split at h
  ·rename_i x' es hr;obtain⟨rfl,h⟩:=h;exact⟨i,x',es,rfl,hr,h⟩
  ·exact h.elim
def qd4(g:Nat):PT:=λd ds H K=>∃(i b j:Nat) (x:Value) (ks:List Int),ds=[.clo g [.bptr i b 0]]/\H i=some (.box b [.own j x])/\H j=some (.mrow x (ji ks))/\ks.Nodup/\ks.length<=1000000/\(∀k∈ks,0<=k/\k<=1000000)/\
 ∀v,K (.own d v) (ai H d (some (.row v bj 1 ((ks.mergeSort (λx y=>decide (x<=y))).map enc))))
def UN(g:Nat):qZ (qd4 g):=λd ds H K K' hk ⟨i,b,j,x,ks,h1,h2,h3,h4,h5,h6,h7⟩=>⟨i,b,j,x,ks,h1,h2,h3,h4,h5,h6,λv=>hk _ _ (h7 v)⟩
def Rr(g:Nat):Spc:= .gen _ (UN g)
section
variable {P:Program}{ρ:Ren}
theorem qdO{fk:Nat}(L:SlLaysZI.n7 P ρ)(hf:ρ.f 7=fk)(ef:ee P fk):Tri dq P fk (qaE (ρ.f 10)).pt:=by
 subst hf;intro O tp w vs ds H d K hO htl hsat hlen hargs hA;obtain⟨id,x,es,rfl,hid,hK⟩:=hA
 match vs,hlen,hargs with
 | [v0],_,hargs=>
 have e0:v0=x:=by
  have:=hargs 0 v0 _ rfl rfl;cases this;rfl
 subst e0;obtain⟨mb,ents,clock,rfl,h1,h2,h3⟩:=hsat.ok id _ hid;refine⟨ef,((callsIn_wide (n:=6)).1 (AnyZI.keys_in L Fence.wide 6 trivial rfl (some mb) w)).mono ?_⟩;rintro e w' ⟨rfl,rfl⟩;have hW:StW ⟨O,tp,w,bL H,0, [],dq⟩ tp H w:=⟨hO,λ_ h=>h,λ_ h=> .inl h,⟨htl.1,htl.2⟩, .refl _ _ _,λ_ h=> .inl h,hsat⟩
 obtain⟨hm,mv⟩:=ow (t:=d) (ob:= .cells #[.map (some mb)] (ρ.t 23)) (r':= .box w.heap.size [.own id (.map (some mb))]) hW (λb hb=>by cases hb;rfl) (λmv=>⟨#[.map (some mb)],ρ.t 23,heap_alloc_new _ _,rfl,λk y c hy hc=>by
  match k with
  | 0=>simp at hy hc;subst hy;subst hc;exact⟨rfl, .own _ _ rfl⟩
  |k+1=>simp at hc⟩)
 refine⟨_,_,_,tp,rfl,hK w.heap.size,λ_ h=>h,λ_ h=> .inl h,hm.tpl.1,hm.step,hm.loc,hm.sat,?_⟩;exact .clo _ [.pointer (some ⟨w.heap.size,0,none⟩)] [.bptr d w.heap.size 0] rfl (λk y c hy hc=>by
  match k with
  | 0=>simp at hy hc;subst hy;subst hc;exact .bptr _ _ _
  |k+1=>simp at hc)
def MO:∀{ks:List Int},ks.Nodup->(ks.map (Value.int .i64)).Nodup
 | [],_=>qB0
 | a::l,h=>by
   have h:=qAW.1 h;refine qAW.2 ⟨λhm=>?_,MO h.2⟩;obtain⟨b,hb,e⟩:=qzV.1 hm;injection e with _ e;subst e;exact h.1 hb
theorem qb5{k:TypeId}(hk:P.underlying k=some (.int .i64)){w:World}{mb clock:Nat}{ents:Array MapEntry}{ks:List Int}(hb:w.heap[mb]? =some (.map ents clock))(hbo:pQ ents clock)(hl:ents.size=ks.length)(hn:ks.Nodup)(hlen:ks.length<=1000000)
 (hr:∀k∈ks,0<=k/\k<=1000000) (he:∀(i:Nat) (e:MapEntry) (k:Int),ents[i]? =some e->ks[i]? =some k->e.key= .int .i64 k):
 ∃D0:DataW Unit,w.ownsMap P k (λ_=>some (.nil, [])) mb ents.size D0/\(intKeys D0).Perm ks/\Maps.size D0=ks.length:=by
 have hkeys:ents.toList.map (·.key)=ks.map (Value.int .i64):=by
  refine qAI λi=>?_
  rw[qz1,qz1,qAg];by_cases hi:i<ks.length
  ·have e1:ents[i]? =some (ents[i]'(by omega)):=qAM (by omega);rw[e1,qzR hi];simp only[qBb];rw[he i _ _ e1 (qzR hi)]
  ·rw[qBi (by omega),qAm (by omega)];rfl
 have hrd:∀x∈ents.toList,∃n∈ks,x.key= .int .i64 n/\WideElems.rd (H:=Unit) P k (λ_=>some (.nil, [])) x=some (.int .i64 n, .nil):=λx hx=>by
  have:x.key∈ks.map (Value.int .i64):=by rw[<-hkeys];exact qzV.2 ⟨x,hx,rfl⟩
  obtain⟨n,hn1,hn2⟩:=qzV.1 this;have hr1:=hr n hn1;refine⟨n,hn1,hn2.symm,?_⟩;have hw:(Lit.int .i64 n).wf=true:=by
   exact(Lit.wf_int_iff .i64 n).2 ⟨by have:IntKind.i64.min= -9223372036854775808:=rfl;omega,by have:IntKind.i64.max=9223372036854775807:=rfl;omega⟩
  simp[WideElems.rd,<-hn2,keyOf,hk,mapKey,hw]
 have F:WideElems.Fit (H:=Unit) P k (λ_=>some (.nil, [])) ents clock:=⟨by rw[hl];exact qAt hlen (by decide),⟨hbo.1,hbo.2,by rw[hkeys];exact MO hn⟩,λx hx=>by
  obtain⟨n,_,_,h⟩:=hrd x hx;exact⟨_,h⟩⟩
 have hown:=World.ownsMap_of_fit (R:=λ_=>some (.nil, [])) hb F (λ_ _ _ h=>h);refine⟨_,hown,?_,?_⟩
 ·show(((ents.toList.map (WideElems.rg P k _)).foldr DataW.insert []).map λp=>intOf p.1).Perm ks;refine((WideShapes.sorted_perm _).map _).trans ?_;rw[List.map_map];have:ents.toList.map ((λp:Lit×DataW Unit=>intOf p.1) ∘WideElems.rg P k λ_=>some (.nil, []))=ks:=by
   have h2:ents.toList.map ((λp:Lit×DataW Unit=>intOf p.1) ∘WideElems.rg P k λ_=>some (.nil, []))=(ents.toList.map (·.key)).map λv=>match v with| .int _ n=>n|_=>0:=by
    rw[List.map_map];refine qAV λx hx=>?_
    obtain⟨n,_,hn2,h⟩:=hrd x hx;simp only[Function.comp];rw[WideElems.rg_of h,hn2];rfl
   rw[h2,hkeys,List.map_map];exact List.map_id'' (λ_=>rfl) ks
  rw[this]
 ·show((ents.toList.map (WideElems.rg P k _)).foldr DataW.insert []).length=_;rw[DataW.length_sorted,qAl,qAc,hl]
theorem Yj{fs fk:Nat}{ρ7:Ren}(hdq:¬dq)(L:SlLaysZI.n6 P ρ)(L7:SlLaysZI.n7 P ρ7)(hf:ρ.f 6=fs)(ef:ee P fs)(hty:ρ.t 26=bj)(hsort:∀m,AnyZI.SortsIn P ρ Fence.wide m)
 (e9:∀args w,(callFunc (ρ.f 9) args).run P w= .ok (.enter (ρ.f 9) args) w) (e10:∀args w,(callFunc (ρ7.f 10) args).run P w= .ok (.enter (ρ7.f 10) args) w):Tri dq P fs (Rr (ρ7.f 10)).pt:=by
 subst hf;intro O tp w vs ds H d K hO htl hsat hlen hargs hA;obtain⟨i,b,j,x,ks,rfl,hi,hj,hn,hl,hr,hK⟩:=hA
 match vs,hlen,hargs with
 | [v0],_,hargs=>
 have hv:=hargs 0 v0 _ rfl rfl;obtain⟨xs0,el0,hb1,hb2,hb3⟩:=hsat.ok i _ hi;obtain⟨mb,ents,clock,rfl,h1,h2,h3⟩:=hsat.ok j _ hj;have hx0:xs0= #[.map (some mb)]:=by
  obtain⟨⟨y,hy⟩⟩:Nonempty {y//xs0= #[y]} :=by
   rcases xs0 with⟨l⟩
   match l,hb2 with
   | [y],_=>exact⟨⟨y,rfl⟩⟩
  subst hy;have:=(hb3 0 y _ rfl rfl).2;cases this;rfl
 subst hx0;have hcell:w.cell? ⟨b,0,none⟩=some (.map (some mb)):=by simp[World.cell?,hb1]
 have hbl:b<w.heap.size:=(qzW.1 hb1).1;have u26:=L7.t26;have hsz:(ji ks).length=ks.length:=by simp[ji]
 obtain⟨D0,hown,hperm,hms⟩:=qb5 (P:=P) (k:=ρ7.t 26) u26 h1 h2 (by rw[h3.1,hsz]) hn hl hr (λi e k he hk=>by
  have hc:(ji ks)[i]? =some (.tup [enc k, .v (.bool true)]):=by simp[ji,hk]
  have:=h3.2 i e _ he hc;have:=this.ent.1;exact this.inv_v)
 have hseq:=AnyZI.keys_gives (ρ:=ρ7) { L7 with } Fence.wide 3 trivial rfl (by omega) b mb _ D0 w hbl hcell hown;have hv0:v0= .func (.func (ρ7.f 10)) #[] #[.pointer (some ⟨b,0,none⟩)]:=by
  cases hv with
  | clo _ ys _ hyl hyc=>
    match ys,hyl with
    | [y],_=>
    have:=hyc 0 y _ rfl rfl;cases this;rfl
 subst hv0;have cS:=AnyZI.sorted_in L Fence.wide 6 trivial trivial trivial trivial rfl (by omega) (hsort _) e9 (ρ7.f 10) #[.pointer (some ⟨b,0,none⟩)] trivial e10 _ (Maps.size D0) (by rw[hms];exact qAt hl (by decide)) (by rw[hms];omega) w hseq;refine⟨ef,((callsIn_wide (n:=6)).1 cS).mono ?_⟩;rintro e w' ⟨v,ss,rfl,hS,hrow,hnil,hbel⟩;have hss:ss.mergeSort (λx y=>decide (x<=y))=ks.mergeSort (λx y=>decide (x<=y)):=mergeSort_of_perm_i (hS.trans hperm);have hsl:ss.length=ks.length:=(hS.trans hperm).length_eq;rw[hss]at hrow;generalize hso:(ks.mergeSort λx y=>decide (x<=y))=so at hrow;have hsol:so.length=ks.length:=by rw[<-hso];simp
 have hmvI:∀b',b'< w.heap.size->w'.heap[b']? =w.heap[b']?:=hbel.block
 let Hn:=ai H d (some (.row v bj 1 (so.map enc)))
 have hblk:∀b',(Res.row v bj 1 (so.map (enc (X:=Int)))).blk=some b'->w.heap.size<=b':=λb' hb'=>by
  rcases hrow.2 with⟨rfl,_⟩|⟨g,cap,cur,rfl,hg,_⟩
  ·cases hb'
  ·cases hb';exact hg
 have hownS:∀b',bL Hn b'->bL H b'\/w.heap.size<=b':=λb' hb'=>by
  rcases PY hb' with⟨r,h1,h2⟩|⟨i,r,_,h1,h2⟩
  ·cases h1;exact .inr (hblk b' h2)
  ·exact .inl ⟨i,r,h1,h2⟩
 have move:∀y c,R tp (bc O tp H w) w y c->R tp (bc O tp Hn w') w' y c:=λy c hr=>hr.mono (λ_ h=>h) (λb' hb'=>⟨⟨qAd hb'.1 hbel.size,hb'.2.1,hb'.2.2.1,λho=>by
  rcases hownS b' ho with h|h
  ·exact hb'.2.2.2 h
  ·exact absurd hb'.1 (by omega)⟩,hmvI b' hb'.1⟩) (λb' hb'=> .same (hmvI b' (htl.1 b' hb')))
 have hget:∀i r,Hn i=some r->(i=d/\r= .row v bj 1 (so.map enc))\/(i≠d/\H i=some r):=λi r h=>by
  simp only[Hn,ai]at h;split at h
  ·rename_i e;cases h;exact .inl ⟨e,rfl⟩
  ·rename_i e;exact .inr ⟨e,h⟩
 have hone:v.oneCell'=true:=by
  rcases hrow.2 with⟨rfl,_⟩|⟨g,cap,cur,rfl,_⟩ <;>rfl
 refine⟨v, .own d v,Hn,tp,rfl,by have:=hK v;rw[hso]at this;exact this,λ_ h=>h,λ_ h=> .inl h,λb' hb'=>qAd (htl.1 b' hb') hbel.size,
  ⟨hbel.os,hbel.tape,hbel.output,hbel.size,λb' hb' _ _=>hmvI b' hb',λb' hb'=> .same (hmvI b' (htl.1 b' hb')),λq=>absurd q hdq⟩,hownS,⟨?_,?_,?_⟩, .own _ _ hone⟩
 ·intro i j r s b' h1 h2 h3 h4;rcases hget i r h1 with⟨rfl,rfl⟩|⟨n1,k1⟩
  ·rcases hget j s h2 with⟨rfl,rfl⟩|⟨n2,k2⟩
   ·rfl
   ·have:=(hsat.ok j s k2).lt h4;have:=hblk b' h3;omega
  ·rcases hget j s h2 with⟨rfl,rfl⟩|⟨n2,k2⟩
   ·have:=(hsat.ok i r k1).lt h3;have:=hblk b' h4;omega
   ·exact hsat.dis i j r s b' k1 k2 h3 h4
 ·intro i r b' h1 h2;rcases hget i r h1 with⟨rfl,rfl⟩|⟨n1,k1⟩
  ·have:=hblk b' h2;exact⟨λh=>by have:=hO b' h;omega,λh=>by have:=htl.1 b' h;omega⟩
  ·exact hsat.out i r b' k1 h2
 ·intro i r h1;rcases hget i r h1 with⟨rfl,rfl⟩|⟨n1,k1⟩
  ·refine⟨so.map encZ,⟨by simp,?_⟩,λd hd=>?_,λk y c hy hc=>?_⟩
   ·have:=hrow.2;rw[hty]at this;rcases this with⟨h,h0⟩|⟨g,cap,cur,h,_,a1,a2,a3,a4,a5⟩
    ·exact .inl ⟨h,by rw[qAl,hsol,<-hsl];exact h0⟩
    ·exact .inr ⟨g,cap,cur,by rw[h];simp;omega,qAk _,a1,by simp;omega,a3,a4,by simpa [hsol,hsl]using a5⟩
   ·obtain⟨z,_,rfl⟩:=qzV.1 hd;exact⟨Cod.kn z,Cod.wid z⟩
   ·have hfl:bb (so.map (enc (X:=Int)))=(so.map encZ).map D.v:=by
     unfold bb;rw[List.flatMap_map,List.map_map];generalize so=l
     induction l with
     |nil=>rfl
     |cons a l ih=>rw[qAq,qAi,ih];rfl
    rw[hfl,qz1,hy]at hc;cases hc;obtain⟨z,_,rfl⟩:=qzV.1 (qzS hy);exact⟨rfl, .v _ rfl (λs h=>by cases h)⟩
  ·exact(hsat.ok i r k1).conv move (λb' hb'=>hmvI b' ((hsat.ok i r k1).lt hb'))
end
end Go.Gv
namespace Go.Gv
open Cod (enc dec)
variable {S S0:Nat->Spc}
def qoN:Cond:=⟨1,⟨#[]⟩,⟨#[]⟩,⟨#[]⟩,⟨#[]⟩,false, []⟩
def qfL(q:Qry)(k:Int):Cond:=(((aq q.pat)[k.toNat]?).map λx=>x.cond).getD qoN
def Vp(c:Corpus)(q:Qry)(i:Int)(x:Span):Bool:=decide (i+x.e∈HS c (qfL q x.b)) && decide (eX c.texts (XI i)=eX c.texts (XI (i+x.e)))
def vP(n:Nat):List Int:=(List.range n).map λi:Nat=>(i:Int)
def qbZ(k:Nat):Y0 (k:Int) (vP k)=vP (k+1):=by
 have h:(k:Int) ∉vP k:=λh=>by
  obtain⟨i,hi,e⟩:=qzV.1 h;have:=qA7.1 hi;omega
 unfold Y0;rw[if_neg h];simp[vP,List.range_succ]
def MR{n:Nat}{i:Int} :i∈vP n↔0<=i/\i<n:=by
 unfold vP;rw[qzV];constructor
 ·rintro⟨j,hj,rfl⟩;have:=qA7.1 hj;omega
 ·rintro⟨h0,h1⟩;exact⟨i.toNat,qA7.2 (by omega),by omega⟩
def Bj(n:Nat):(vP n).Pairwise (· < ·):=by
 unfold vP;rw[qB7];exact List.pairwise_lt_range.imp (λh=>by omega)
def GV{α:Type}[DecidableEq α]:∀{l:List α} {i:Nat} {z:α},l.Nodup->l[i]? =some z->l.eraseIdx i=l.filter λy=>decide (y≠z)
 | [],_,_,_,h=>by simp at h
 | a::l,0,z,hn,h=>by
   simp at h;subst h;have hn:=qAW.1 hn;simp only[List.eraseIdx_cons_zero];rw[List.filter_cons_of_neg (by simp)];exact(qBd.2 λy hy=>by simp;rintro rfl;exact hn.1 hy).symm
 | a::l,i+1,z,hn,h=>by
   have hn:=qAW.1 hn;have hz:a≠z:=λe=>hn.1 (e ▸qzS (by simpa using h))
   rw[List.eraseIdx_cons_succ,List.filter_cons_of_pos (by simpa using hz),GV hn.2 (by simpa using h)]
def qck{l:List Int}(hn:l.Nodup){i j:Nat}(hi:i<l.length)(hj:j<l.length)(h:l[i]=l[j]):i=j:=by
 rcases qCt i j with h1|h1|h1
 ·exact absurd h (qA1.1 hn i j hi hj h1)
 ·exact h1
 ·exact absurd h.symm (qA1.1 hn j i hj hi h1)
def Gn:∀{zs:List (Nat×Int)},(zs.map (·.1)).Nodup->zs.Nodup
 | [],_=>qB0
 | z::zs,h=>by
   have h:=qAW.1 h;exact qAW.2 ⟨λhz=>h.1 (qzV.2 ⟨z,hz,rfl⟩),Gn h.2⟩
def Yu(l:List Int)(i:Nat):(ji l).eraseIdx i=ji (l.eraseIdx i):=by
 unfold ji
 induction l generalizing i with
 |nil=>rfl
 | cons a l ih=>cases i with
   |zero=>rfl
   |succ i=>simp only[qAi,List.eraseIdx_cons_succ,ih]
theorem qj3{l:List Int}{st:List Nat}{k:Int}{i:Nat}{K:List D->List Nat->Prop}(hn:l.Nodup)(hk:l[i]? =some k)(h:K (ji (l.eraseIdx i)) (st.eraseIdx i)):WF false [.int .i64] (.v (.int .i64 k)) (ji l) st K:=by
 have hK:=VW;refine⟨UP hK l,hK.fit k,λj k' v' hj m=>?_,λhno=>?_⟩
 ·have hj2:j<l.length:=by
   have:=(qzP.1 hj).1;simpa [ji]using this
  have e:(ji l)[j]? =some (.tup [enc l[j], .v (.bool true)]):=by simp[ji,hj2]
  rw[e]at hj;simp only[qz5,D.tup.injEq,qAu,and_true]at hj;obtain⟨rfl,rfl⟩:=hj;have hkj:k=l[j]:=by
   have:=MS (hK.pur k) (hK.pur l[j]) m;exact bK this
  obtain⟨hi,hi2⟩:=qzP.1 hk;have:i=j:=qck hn hi hj2 (hi2.trans hkj);subst this;rw[Yu];exact h
 ·exact absurd (VK.2 ⟨qzS hk,rfl⟩) (hno (hK.pur k) _)
def B6(P:Int->Bool)(zs:List (Nat×Int))(seen:List Nat):List (Nat×Int):=zs.filter λz=>decide (z.1∉seen)||P z.2
def P4{zs:List (Nat×Int)}(h:(zs.map (·.1)).Nodup){a b:Nat×Int}(ha:a∈zs)(hb:b∈zs)(e:a.1=b.1):a=b:=by
 induction zs with
 |nil=>cases ha
 | cons z zs ih=>
   have h:=qAW.1 h;rcases qz4.1 ha with ea|ha<;>rcases qz4.1 hb with eb|hb
   ·rw[ea,eb]
   ·exact absurd (qzV.2 ⟨b,hb,by rw[<-e,ea]⟩) h.1
   ·exact absurd (qzV.2 ⟨a,ha,by rw[e,eb]⟩) h.1
   ·exact ih h.2 ha hb
def qc1{P:Int->Bool}{zs:List (Nat×Int)}{seen:List Nat}{s:Nat}{k:Int}(hn:(zs.map (·.1)).Nodup)(hm:(s,k) ∈zs)(hk:P k=true):B6 P zs (seen++ [s])=B6 P zs seen:=by
 refine List.filter_congr λz hz=>?_
 by_cases e:z.1=s
 ·have:=P4 hn hz hm e;subst this;simp[hk]
 ·simp[e]
def qgV{P:Int->Bool}{zs:List (Nat×Int)}{seen:List Nat}{s i:Nat}{k:Int}(hn:(zs.map (·.1)).Nodup)(hs:s∉seen)(hk:P k=false)(hi:(B6 P zs seen)[i]? =some (s,k)):B6 P zs (seen++ [s])=(B6 P zs seen).eraseIdx i:=by
 have hzn:zs.Nodup:=Gn hn;have hm:(s,k) ∈zs:=(qAP.1 (qzS hi)).1;have h2:=GV (hzn.filter _) hi;rw[show(B6 P zs seen).eraseIdx i=_ from h2];unfold B6;rw[List.filter_filter];refine List.filter_congr λz hz=>?_
 by_cases e:z.1=s
 ·have:=P4 hn hz hm e;subst this;simp[hk]
 ·have:z≠ (s,k):=λh=>e (by rw[h])
  simp[e,this]
def qgU{P:Int->Bool}{zs:List (Nat×Int)}{seen:List Nat}(h:∀s∈ (B6 P zs seen).map (·.1),s∈seen):B6 P zs seen=zs.filter λz=>P z.2:=by
 refine List.filter_congr λz hz=>?_
 by_cases e:z.1∈seen
 ·simp[e]
 ·exact absurd (h z.1 (qzV.2 ⟨z,qAP.2 ⟨hz,by simp[e]⟩,rfl⟩)) e
def qjo{zs:List (Nat×Int)}{seen:List Nat}{s:Nat}{k:Int}(hm:(s,k) ∈zs)(hs:s∉seen):(zs.filter λz=>!decide (z.1∈seen++ [s])).length<(zs.filter λz=>!decide (z.1∈seen)).length:=by
 have e:(zs.filter λz=>!decide (z.1∈seen++ [s]))=(zs.filter λz=>!decide (z.1∈seen)).filter λz=>decide (z.1≠s):=by
  rw[List.filter_filter];refine List.filter_congr λz _=>?_
  by_cases h:z.1∈seen<;>by_cases h2:z.1=s<;>simp[h,h2]
 rw[e];have hm2:(s,k) ∈zs.filter λz=>!decide (z.1∈seen):=qAP.2 ⟨hm,by simp[hs]⟩
 exact List.length_filter_lt_length_iff_exists.2 ⟨_,hm2,by simp⟩
def Ez{α β:Type}(f:α->β):∀(l:List α) (i:Nat),(l.eraseIdx i).map f=(l.map f).eraseIdx i
 | [],_=>rfl
 |a::l,0=>rfl
 |a::l,i+1=>by simp only[List.eraseIdx_cons_succ,qAi,Ez f l i]
def qh3{st:List Nat}{ks:List Int}(h:st.length=ks.length):(st.zip ks).map (·.2)=ks:=by
 rw[show(λx:Nat×Int=>x.2)=Prod.snd from rfl,List.map_snd_zip (by omega)]
def qh4{st:List Nat}{ks:List Int}(h:st.length=ks.length):(st.zip ks).map (·.1)=st:=by
 rw[show(λx:Nat×Int=>x.1)=Prod.fst from rfl,List.map_fst_zip (by omega)]
def qda(c:Corpus)(q:Qry)(s:List Span):List Int:=(vP c.toks.length).filter λi=>s.all (Vp c q i)
structure ws (V:List Attr->Qry->Prop) (c:Corpus) (q:Qry):Prop where
 v:V c.attrs q
 pat:fI aI q.pat=true
 size:fj q.pat<=256
 fx:mV q.pat
 pl:qdn q.pat []
 few:c.toks.length<=100000
 sel:∀x∈aq q.pat,Hg (c,x.cond)
def XB(V:List Attr->Qry->Prop)(z:Corpus×Qry×List Span):Prop:=ws V z.1 z.2.1/\z.2.2.length<=100000
def qbi(z:Corpus×Qry×List Span)(y:List Int×Int):Prop:=∃F,SrcsOf z.2.1.pat F/\(y=(qda z.1 z.2.1 z.2.2,0)/\qdg F z.2.2\/y=([],18)/\ ¬qdg F z.2.2)
abbrev RA(V:List Attr->Qry->Prop):Spc:=aL (a3 Corpus Qry (List Span)) (XB V) (lL (Y:=List Int) (Z:=Int)) qbi
def Yw(c:Corpus)(x:Cond):(HS c x).Pairwise (· < ·):=by
 unfold HS Ru;rw[qB7];exact(List.pairwise_lt_range.filter _).imp (λh=>by omega)
def qfS{c:Corpus}{q:Qry}{s:List Span}{k:Nat}{x:Span}(hx:s[k]? =some x){ks:List Int}(h:ks=(vP c.toks.length).filter λi=>(s.take k).all (Vp c q i)):ks.filter (λi=>Vp c q i x)=(vP c.toks.length).filter λi=>(s.take (k+1)).all (Vp c q i):=by
 rw[h,List.filter_filter,av hx];refine List.filter_congr λi _=>?_
 simp[List.all_append,Bool.and_comm]
theorem Oz{V:List Attr->Qry->Prop}(h1:S fm=FS V)(h2:S sD=Aj)(h3:S pg=ue)(h4:S iT=qeE)
 (h5:S fL=qeM) (h6:S sI=Al) (h7:S qB=qaE iS) (h8:S te=Rr iS):
 am vx uw S (a3 Corpus Qry (List Span)) (XB V) (lL (Y:=List Int) (Z:=Int)) qbi:=by
 rintro⟨c,q,s⟩ ⟨hB,hs⟩;have hB:ws V c q:=hB;have hs:s.length<=100000:=hs;have hV:V c.attrs q:=hB.v;have hfx:mV q.pat:=hB.fx;have hfew:=hB.few;have htl:(c.toks.length:Int)<=9223372036854775807:=by omega
 have hsl:(s.length:Int)<=9223372036854775807:=by omega
 simp[vx,uw,h1,h2,hV,hfx,hs,htl,-fB',-eB'];rintro y ⟨F,hF,hy⟩;have hF:SrcsOf q.pat F:=by
  have hF:jh q.pat F:=hF;unfold jh at hF;rwa [if_pos ⟨hB.pat,hB.size⟩]at hF
 refine⟨λhne=>?_,λhe v=>?_⟩
 ·rcases hy with⟨rfl,_⟩|⟨rfl,hno⟩
  ·exact absurd rfl hne
  ·exact⟨F,hF, .inr ⟨rfl,hno⟩⟩
 have hok:qdg F s:=by
  rcases hy with⟨_,h⟩|⟨rfl,_⟩
  ·exact h
  ·cases he
 clear hy he;refine ah (X:=List Int) [2,3,4,10] [] c.toks.length (λk ks=>ks=vP k) (λ_=>[]) (λks=>[(33, .mrow v (ji ks))]) [] (by simp[vP]) ?_ ?_ (hh:=by simp;exact .inl rfl)
 ·rintro k ks hk rfl;simp[-fB',-eB'];exact qiz (X:=Int) VW rfl (.inl (by rw[qbZ]))
 rintro ks rfl;simp[h3,hsl,hB.pat,hB.pl,-fB',-eB'];refine ah (X:=List Int) [3,10,12,46] [] s.length (λk ks=>ks=(vP c.toks.length).filter λi=>(s.take k).all (Vp c q i)) (λ_=>[]) (λks=>[(33, .mrow v (ji ks))]) (vP c.toks.length) (by simp;exact(qBd.2 λ_ _=>rfl).symm) ?_ ?_
 ·rintro k ks hk hks;obtain⟨x,hx⟩:=ed hk;obtain⟨_,hgx⟩:=qzP.1 hx;have hxF:SrcE q.pat 0 0 x:=(hF.2 x).1 (hok k x hx).1;obtain⟨r1,r2,r3,r4⟩:=Rq q.pat hB.pat 0 0 x hxF;have r5:cZ q.pat<=1000000:=hfx.1;obtain⟨a,ha⟩:=ed (show x.b.toNat<(aq q.pat).length by omega);have hq:(bz q.pat)[x.b.toNat]? =some (mi a):=by unfold bz;rw[qz1,ha];rfl
  obtain⟨hql,hqg⟩:=qzP.1 hq;have hsel:Hg (c,(mi a).cond):=hB.sel a (qzS ha);have hlc:qfL q x.b=(mi a).cond:=by unfold qfL;rw[ha];rfl
  have hb2:x.b<(bz q.pat).length:=by omega
  have hb1:0<=x.b:=by omega
  generalize hcl:mi a=a' at hq hqg hsel hlc;simp[hk,hx,hgx,hq,hqg,hb1,hb2,h4,hsel,-fB',-eB'];intro b b1 st clock hborn;obtain⟨hb1',hbn,hbc⟩:=hborn;have hbl:st.length=ks.length:=by rw[hb1'];simp[ji]
  have hz1:=qh4 hbl;have hz2:=qh3 hbl;generalize hzs:st.zip ks=zs at hz1 hz2;have hzn:(zs.map (·.1)).Nodup:=by rw[hz1];exact hbn
  have hkn:(zs.map (·.2)).Nodup:=by
   rw[hz2,hks];exact((Bj _).imp (λh=>by omega)).filter _
  have hc0:B6 (λi=>Vp c q i x) zs []=zs:=qBd.2 λz _=>by simp
  refine ay (X:=List Nat) [3,10,12,14,15,46,47,48,67] [14] (λ_=>True) (λ_=>[]) (λseen=>[(33, .raw (.mrs v (ji ((B6 (λi=>Vp c q i x) zs seen).map (·.2))) ((B6 (λi=>Vp c q i x) zs seen).map (·.1)) clock)),(67, .raw (.mit b1 33 v clock seen))]) (λseen=>(zs.filter λz=>decide (z.1∉seen)).length) [] trivial ?_ (hh:=by simp[hc0,hz1,hz2]);rintro seen -;simp[-fB',-eB'];have hsrt:(HS c a'.cond).Pairwise (· < ·)/\(HS c a'.cond).length<=1000000:=⟨Yw c a'.cond,qAt (UR _ _ _) (by omega)⟩
  refine⟨λhall=> .inl ?_,λs1 k1 hm1 hns=>⟨⟨k1,hm1⟩,λi e k2 hi he=>?_⟩⟩
  ·congr 1;rw[qgU (λs hs=>by obtain⟨z,hz,rfl⟩:=qzV.1 hs;exact hall z.1 z.2 hz)];rw[<-qfS hx hks,<-hz2,List.filter_map];rfl
  have hmz:(s1,k2) ∈zs:=(qAP.1 (qzS hi)).1;have hmk:k2∈vP c.toks.length:=by
   have:k2∈ks:=by rw[<-hz2];exact qzV.2 ⟨_,hmz,rfl⟩
   rw[hks]at this;exact(qAP.1 this).1
  obtain⟨k0,k9⟩:=MR.1 hmk;have he2:e= .tup [enc k2, .v (.bool true)]:=by
   have:(ji ((B6 (λi=>Vp c q i x) zs seen).map (·.2)))[i]? =some (.tup [enc k2, .v (.bool true)]):=by simp[ji,hi]
   rw[this]at he;exact(qAa he).symm
  subst he2;have hmeas:(zs.filter λz=>!decide (z.1∈seen++ [s1])).length<(zs.filter λz=>!decide (z.1∈seen)).length:=qjo hmz hns;have hpl:Vp c q k2 x=(decide (k2+x.e∈HS c a'.cond) && decide (eX c.texts (XI k2)=eX c.texts (XI (k2+x.e)))):=by unfold Vp;rw[hlc]
  have hdel:Vp c q k2 x=false->∀K:List D->List Nat->Prop,K (ji ((B6 (λi=>Vp c q i x) zs (seen++ [s1])).map (·.2))) ((B6 (λi=>Vp c q i x) zs (seen++ [s1])).map (·.1))->
   WF false [KK.int IntKind.i64] (D.v (Value.int IntKind.i64 k2)) (ji ((B6 (λi=>Vp c q i x) zs seen).map (·.2))) ((B6 (λi=>Vp c q i x) zs seen).map (·.1)) K:=λhp K hK=>by
   refine qj3 (i:=i) ?_ (by rw[qz1,hi];rfl) ?_
   ·exact hkn.sublist (List.Sublist.map _ qCi)
   ·rw[qgV hzn hns hp hi]at hK;rw[Ez,Ez]at hK;exact hK
  simp[h5,h6,hsrt,-fB',-eB'];refine⟨⟨by omega,by omega⟩,λhin=>⟨⟨by omega,by omega⟩,λhne=>?_,λheq=>?_⟩,λhin=>?_⟩
  ·exact hdel (by rw[hpl];simp[hne]) _ ⟨seen++ [s1],⟨.inl ⟨rfl,rfl⟩, .inl rfl⟩,hmeas⟩
  ·refine⟨seen++ [s1],⟨.inl ?_, .inl rfl⟩,hmeas⟩;rw[qc1 hzn hmz (by rw[hpl];simp[hin,heq])];exact⟨rfl,rfl⟩
  ·exact hdel (by rw[hpl];simp[hin]) _ ⟨seen++ [s1],⟨.inl ⟨rfl,rfl⟩, .inl rfl⟩,hmeas⟩
 rintro ks hks;rw[qz8]at hks;have hkb:ks=qda c q s:=hks;simp[h7,-fB',-eB'];intro b;rw[h8];have hkn:ks.Nodup:=by
  rw[hks];exact((Bj _).imp (λh=>by omega)).filter _
 have hkr:∀k∈ks,0<=k/\k<c.toks.length:=λk hk=>by
  rw[hks]at hk;exact MR.1 (qAP.1 hk).1
 have hkl:ks.length<=c.toks.length:=by
  rw[hks];exact qAt (List.length_filter_le _ _) (by simp[vP])
 have hms:ks.mergeSort (λx y=>decide (x<=y))=ks:=by
  refine List.mergeSort_of_pairwise ?_;rw[hks];exact((Bj _).filter _).imp λh=>by simp;omega
 refine⟨99,b,33,v,ks,rfl,by simp[ai],by simp[ai],hkn,by omega,λk hk=>⟨(hkr k hk).1,by have:=(hkr k hk).2;omega⟩,λv'=>?_⟩;rw[hms];refine⟨ks,ga bj (by simp[ai]),F,hF, .inl ⟨by rw[hkb],hok⟩⟩
end Go.Gv
namespace Go.Gv
open Go.Proofs
def sR:CC:=gq Tryz.f26 [1] { bx:=[7] } _
def sj:List ak:=[.tmp 2]
def Km:FO pg [1] sR sj 8:=fo
open Cod (enc dec)
variable {S S0:Nat->Spc}
def JV(h1:S jw=cY)(h2:S dy=s_leavesQ):am sR sj S (a1 Pat) (λx=>qdn x []) (enc (X:=List Pat)) λx y=>y=if fI aI x then bz x else[]:=by
 rintro p hp;have hp:qdn p []:=hp;simp[sR,sj,h1,h2,hp,-fB',-eB'];clear h1 h2;exact⟨λh=>aV [] (by simp) (by rw[h];rfl),λh=> .inl λv=>aV (bz p) (ga aJ (by simp)) (by rw[h];rfl)⟩
abbrev U1:Spc:=aL (a2 Corpus Cond) Hg (lL (Y:=Int) (Z:=Int)) λz y=>y=(((HS z.1 z.2).length:Int),0)
def HF(h1:S iT=qeE):am pK oo S (a2 Corpus Cond) Hg (lL (Y:=Int) (Z:=Int)) λz y=>y=(((HS z.1 z.2).length:Int),0):=by
 rintro⟨c,x⟩ hP;simp[pK,oo,h1,hP,-fB',-eB']
def nL(c:Corpus)(q:Qry):List Int:=(aq q.pat).map λx=>((HS c x.cond).length:Int)
abbrev PJ(V:List Attr->Qry->Prop):Spc:=aL (a2 Corpus Qry) (λz=>ws V z.1 z.2) (lL (Y:=List Int) (Z:=Int)) λz y=>y=(nL z.1 z.2,0)
theorem Fc{V:List Attr->Qry->Prop}(h1:S fm=FS V)(h2:S pg=ue)(h3:S qD=U1):am nz nc S (a2 Corpus Qry) (λz=>ws V z.1 z.2) (lL (Y:=List Int) (Z:=Int)) λz y=>y=(nL z.1 z.2,0):=by
 rintro⟨c,q⟩ hB;have hB:ws V c q:=hB;have hV:V c.attrs q:=hB.v;have hlen:(bz q.pat).length=(aq q.pat).length:=by unfold bz;simp
 have hll:(aq q.pat).length<=100000000:=by have:=hB.pl.1;simpa using this
 simp[nz,nc,h1,h2,hV,hB.pat,hB.pl,-fB',-eB'];intro hl9;refine ah (X:=Value×List Int) [2,21] [] (bz q.pat).length (λk z=>z.2=(nL c q).take k) (λz=>[(7, .own 40 z.1)]) (λz=>[(40, .row z.1 bj 1 (z.2.map enc))]) (.slice none 0 0, []) (by simp) ?_ ?_ (hh:=by simp[isNilRow])
 ·rintro k ⟨v,z⟩ hk hz;have hz:z=(nL c q).take k:=hz;obtain⟨a,ha⟩:=ed (show k<(aq q.pat).length by omega);have hq:(bz q.pat)[k]? =some (mi a):=by unfold bz;rw[qz1,ha];rfl
  obtain⟨hql,hqg⟩:=qzP.1 hq;have hsel:Hg (c,(mi a).cond):=hB.sel a (qzS ha);have hcn:(nL c q)[k]? =some (((HS c (mi a).cond).length:Int)):=by unfold nL;rw[qz1,ha];rfl
  have hzl:z.length=k:=by rw[hz,qAo];unfold nL;rw[qAl];omega
  generalize hcl:mi a=a' at hq hqg hsel hcn;simp[hk,hq,hqg,h3,hsel,-fB',-eB'];refine⟨by omega,by omega,λv'=> .inl ?_⟩;rw[hz,<-List.map_take,av hcn];simp
 ·rintro⟨v,z⟩ hz;have hz:z=(nL c q).take (bz q.pat).length:=hz;have:z=nL c q:=by rw[hz,qAN];unfold nL;rw[qAl];omega
  subst this;simp[-fB',-eB'];exact ga bj (by simp[ai])
def wo(n:List Int):List Span->List Span->List Span
 |out, []=>out
 | out,s::l=>wo n (match out with
   | []=>[s]
   |o::_=>if(n[s.b.toNat]?).getD 0<(n[o.b.toNat]?).getD 0 then[s]else out) l
def NQ(n:List Int):∀(l out:List Span) (s:Span),wo n out (l++ [s])=wo n (wo n out l) [s]
 | [],out,s=>rfl
 | a::l,out,s=>by
   show wo n _ (l++ [s])=wo n (wo n _ l) [s];exact NQ n l _ s
def ZC(z:Corpus×Qry)(y:List Span×Int):Prop:=∃F,SrcsOf z.2.pat F/\y=(wo (nL z.1 z.2) [] F,0)
abbrev ZX(V:List Attr->Qry->Prop):Spc:=aL (a2 Corpus Qry) (λz=>ws V z.1 z.2) (lL (Y:=List Span) (Z:=Int)) ZC
theorem TW{V:List Attr->Qry->Prop}(h1:S pj=PJ V)(h2:S lK=qb):am Aa yT S (a2 Corpus Qry) (λz=>ws V z.1 z.2) (lL (Y:=List Span) (Z:=Int)) ZC:=by
 rintro⟨c,q⟩ hB;have hB:ws V c q:=hB;have hfx:mV q.pat:=hB.fx;have hV:=hB;simp[Aa,yT,h1,h2,hB,hfx,-fB',-eB'];intro F hF hl9;have hF:SrcsOf q.pat F:=by
  have hF:jh q.pat F:=hF;unfold jh at hF;rwa [if_pos ⟨hB.pat,hB.size⟩]at hF
 have hcl:(nL c q).length=(aq q.pat).length:=by unfold nL;simp
 have hin:∀s∈F,0<=s.b/\s.b<(nL c q).length:=λs hs=>by
  obtain⟨r1,r2,r3,r4⟩:=Rq q.pat hB.pat 0 0 s ((hF.2 s).1 hs);omega
 refine ah (X:=List Span) [6,22] [] F.length (λk z=>z=wo (nL c q) [] (F.take k)/\z.length<=1/\∀s∈z,s∈F) (λz=>[(8, .list 2 (z.map enc))]) (λ_=>[]) [] ⟨rfl,by simp,by simp⟩ ?_ ?_
 ·rintro k z hk ⟨hz,hz1,hzF⟩;obtain⟨x,hx⟩:=ed hk;obtain⟨_,hgx⟩:=qzP.1 hx;obtain⟨x1,x2⟩:=hin x (qzS hx);obtain⟨nx,hnx⟩:=ed (show x.b.toNat<(nL c q).length by omega);obtain⟨_,hgn⟩:=qzP.1 hnx;have hstep:wo (nL c q) [] (F.take (k+1))=wo (nL c q) z [x]:=by rw[av hx,NQ,<-hz]
  clear hz;cases z with
  | nil=>
    simp[hk,hx,hgx,hstep,wo,-fB',-eB'];exact⟨[x],⟨rfl,by simp,λs hs=>by simp at hs;subst hs;exact qzS hx⟩,by simp⟩
  | cons o zs=>
    have:zs=[]:=by simpa using hz1
    subst this;obtain⟨o1,o2⟩:=hin o (hzF o (by simp));obtain⟨no,hno⟩:=ed (show o.b.toNat<(nL c q).length by omega);obtain⟨_,hgo⟩:=qzP.1 hno;simp[hk,hx,hgx,hnx,hgn,hno,hgo,x1,x2,o1,o2,hstep,wo,-fB',-eB'];have mx:∀s∈ [x],s∈F:=λs hs=>by simp at hs;subst hs;exact qzS hx
    exact⟨λh=>⟨[x],⟨by rw[if_pos h],by simp,mx⟩,by simp⟩,λh=>⟨[o],⟨by rw[if_neg (by omega)],by simp,hzF⟩,by simp⟩⟩
 ·rintro z ⟨hz,_,_⟩;rw[qz8]at hz;simp[-fB',-eB'];exact⟨z, .same _,F,hF,by rw[hz]⟩
def Xy(p:Pat)(y:List Span):Prop:=jh p y/\y.length<=jq p
abbrev FN:Spc:=aL (a1 Pat) mV (enc (X:=List Span)) Xy
def QK(h1:S dE=cY)(h2:S zC=D4)(h3:S ix=FM):am zN yG S (a1 Pat) mV (enc (X:=List Span)) Xy:=by
 rintro p ⟨hp1,hp2⟩;simp[zN,yG,h1,h2,h3,-fB'];clear h1 h2 h3;refine⟨λh=>?_,λh=>aV [] (by simp) ⟨by unfold jh;rw[if_neg (by rw[h];simp)],qAk _⟩⟩;rw[if_pos h];refine⟨λh2=>aV [] (by simp) ⟨by unfold jh;rw[if_neg (by omega)],qAk _⟩,λh2=>⟨⟨dc p,⟨qzX _,h⟩,qA9 _,by show(0:Int) +200000* (cZ p:Int)<=_;omega,qA9 _,by show(0:Int) + (cZ p:Int)<=_;omega,SS.nil,by show([]:List Span).length+_<=_;simpa using hp2⟩,?_⟩⟩;rintro y ⟨c1,c2,c3⟩;refine aV y (by simp) ⟨?_,by simpa using c3⟩;unfold jh;rw[if_pos ⟨h,h2⟩];exact⟨c1,λs=>by rw[c2 s];simp⟩
def qhK(x:List Int×Qry):Prop:=mV x.2.pat/\jq x.2.pat<=1000
abbrev Vb:Spc:=aL (aT (a1 Qry)) qhK (enc (X:=List Span)) λ_ y=>y.length<=2000
theorem qdz(h1:S BM=FN)(h2:S bP=s_m_Next):am sY sx S (aT (a1 Qry)) qhK (enc (X:=List Span)) λ_ y=>y.length<=2000:=by
 rintro⟨L,q⟩ ⟨hfx,hcn⟩;have hfx:mV q.pat:=hfx;have hcn:jq q.pat<=1000:=hcn;simp[sY,sx,h1,hfx,-fB',-eB'];rintro F ⟨hF,hFl⟩ hl9;refine ah (X:=Value×List Span) [0,10] [] F.length (λk z=>z.2.length<=k) (λz=>[(5, .own 22 z.1)]) (λz=>[(22, .row z.1 aK 2 (z.2.map enc))]) (.slice none 0 0, []) (by simp) ?_ ?_ (hh:=by simp[isNilRow])
 ·rintro k ⟨v,z⟩ hk hz;have hz:z.length<=k:=hz;obtain⟨x,hx⟩:=ed hk;obtain⟨_,hgx⟩:=qzP.1 hx;simp[hk,hx,hgx,h2,-fB',-eB'];refineλy _ _=>⟨λ_=>⟨by omega,by omega,λv'=>⟨v',z++ [x],by simp;omega,rfl, .inl ⟨rfl,by simp⟩⟩⟩,λ_=>⟨v,z,by omega,rfl, .inl ⟨rfl,rfl⟩⟩⟩
 ·rintro⟨v,z⟩ hz;have hz:z.length<=F.length:=hz;simp[h2,-fB',-eB'];refineλy _ _=>⟨λ_ a _ _ b _ _=>⟨by omega,by omega,λv'=>aV (z++ [⟨a,b⟩]) (ga aK (by simp[ai])) (by simp;omega)⟩,λ_=>aV z (ga aK (by simp[ai])) (by omega)⟩
end Go.Gv
namespace Go.Gv
open Cod (enc dec)
open Go.Proofs Go.Sort Go.Shelf Go.Lib Go.RowKit
variable {dq:Prop}
section
variable {P:Program}{ρ:Ren}{X:Type}[Cod X][Inhabited X]
def qrf(g:Nat)(x:D×Unit)(l:List X):Prop:=x.1= .clo g []/\l.length<=100000
def qhz(cf:X->X->Int)(_:D×Unit)(l r:List X):Prop:=r=l.mergeSort λx y=>!(ltOf cf) y x
theorem qg4(hTb:uc=[]){g:Nat}{cf:X->X->Int}(ev:X->List Value)(hev:∀x,enc x=D.agg ((ev x).map D.v))(hone:∀x,∀v∈ev x,v.oneCell'=true/\∀s,v= .string s->s.size<=maxLen)
 (hg:Tri True P g (aL (a2 X X) (λ_=>True) (enc (X:=Int)) λx y=>y=cf x.1 x.2).pt) (blk size k:Nat) (w:World):CmpLays P g #[] ev k cf blk 0 size w:=by
 intro m os dk _ x y;generalize sortWorldK ev k w blk 0 m dk os=W;have hR:∀z,R (λ_=>False) (bc (λb=>b<W.heap.size) (λ_=>False) da W) W (.agg (ev z).toArray) (enc z):=λz=>by
  rw[hev z];refine .agg (ev z) _ (by simp) (λv hv=>(hone z v hv).1) λj v c h1 h2=>?_
  rw[qz1]at h2;rw[h1]at h2;cases h2;exact .v v (hone z v (qzS h1)).1 (hone z v (qzS h1)).2
 obtain⟨_,hc⟩:=hg (λb=>b<W.heap.size) (λ_=>False) W [.agg (ev x).toArray, .agg (ev y).toArray] [enc x,enc y] da 0 (λr H'=>r=enc (cf x y)/\H'=da) (λb h=>h) ⟨λb h=>h.elim,λp hp=>by rw[hTb]at hp;cases hp⟩
  ⟨λi j r s b h=>by simp[da]at h,λi r b h=>by simp[da]at h,λi r h=>by simp[da]at h⟩ rfl
  (λj v c h1 h2=>by
    rcases j with _|_|j
    ·simp at h1 h2;subst h1;subst h2;exact hR x
    ·simp at h1 h2;subst h1;subst h2;exact hR y
    ·simp at h1)
  (by rw[nO];simp)
 refine hc.mono ?_;rintro e w' ⟨v,r,H',tp',rfl,⟨rfl,rfl⟩,_,_,_,hs,_,_,hv⟩;have hv':v= .int .i64 (cf x y):=by
  have:R tp' (bc (λb=>b<W.heap.size) tp' da w') w' v (.v (.int .i64 (cf x y))):=hv;exact this.inv_v
 subst hv';refine⟨rfl,w'.drawn -W.drawn,w'.heap.extract W.heap.size w'.heap.size,?_⟩;have hheap:w'.heap=W.heap++w'.heap.extract W.heap.size w'.heap.size:=by
  apply Array.ext_getElem?;intro b;by_cases hb:b<W.heap.size
  ·rw[qAG hb];exact hs.same b hb (λ⟨i,r,h,_⟩=>by simp[da]at h) (λh=>h)
  ·rw[Array.getElem?_append_right (by omega),qCd];have hsz:W.heap.size<=w'.heap.size:=hs.size;by_cases hb2:b<w'.heap.size
   ·rw[if_pos (by omega)];congr 1;omega
   ·rw[if_neg (by omega),qBi (by omega)]
 have h1:=hs.os;have h2:=hs.tape;have h3:=hs.output;have h4:=hs.drawn trivial;have h5:W.drawn+ (w'.drawn -W.drawn)=w'.drawn:=by omega
 cases w';cases W;simp only[grow,World.drewN]at*;subst h1;subst h2;subst h3;rw[h5,<-hheap]
theorem Rg(hTb:uc=[]){fsort g:Nat}{cf:X->X->Int}(L:SlLaysF0.n6 P ρ)(hf:ρ.f 6=fsort)(ev:X->List Value)(k el:Nat)(hk:∀x,(ev x).length=k)(hev:∀x,enc x=D.agg ((ev x).map D.v))
 (hone:∀x,∀v∈ev x,v.oneCell'=true/\∀s,v= .string s->s.size<=maxLen) (aE:∀w,(isAgg (ρ.t 24)).run P w= .ok true w) (zE:∀w,(Go.sizeOf (ρ.t 24)).run P w= .ok k w)
 (hO:SWO (ltOf cf)) (hT:∀x y,(ltOf cf) x y=false->(ltOf cf) y x=false->x=y) (hg:Tri True P g (aL (a2 X X) (λ_=>True) (enc (X:=Int)) λx y=>y=cf x.1 x.2).pt) (eg:ee P g) (ef:ee P fsort):
 Tri dq P fsort (qoh (aD a0) (qrf g) (qhz cf) el k).pt:=by
 subst hf;intro O tp w vs ds H d K hO' htl hsat hlen hargs hA;obtain⟨id,v,l,ds',x,rfl,hd,hid,⟨hx1,hl5⟩,hK⟩:=hA;have hds:ds'=[.clo g []]:=by
  match ds',hd with
  | [],h=>cases h
  | a::r,h=>
    rw[qnE]at h
    match r,h with
    | [],h=>
      simp at h;subst h;simp only at hx1;rw[hx1]
    |b::r,h=>cases h
 subst hds
 match vs,hlen,hargs with
 | [v0,fv],_,hargs=>
 have e0:v0=v:=by
  have:=hargs 0 v0 _ rfl rfl;cases this;rfl
 have e1:fv= .func (.func g) #[] #[]:=by
  have:=hargs 1 fv _ rfl rfl;cases this with
  | clo _ xs _ hl _=>
    have:xs=[]:=by simpa using hl
    subst this;rfl
 subst e0;subst e1;refine⟨ef,?_⟩;obtain⟨xs,⟨hxl,hx⟩,hkn,hcells⟩:=hsat.ok id _ hid;rcases hx with⟨rfl,h0⟩|⟨gb,cap,cur,rfl,_,hgb,hcap,hcapm,hsz,htake⟩
 ·have hl0:l=[]:=by simpa using h0
  subst hl0;refine(AnyF.slices_SortFunc_none L none 0 _ w).mono ?_;rintro e w' ⟨rfl,rfl⟩;have hH:ai H id (some (.row (.slice none 0 0) el k (([]:List X).map enc)))=H:=by
   funext i;simp only[ai];by_cases hi:i=id
   ·subst hi;simp[hid]
   ·simp[hi]
  refine⟨_,_,_,tp,rfl,hK [] (by simp[qhz]),λb h=>h,λb h=> .inl h,htl.1, .refl _ _ _,λb h=> .inl (by rwa [hH]at h),by rw[hH];exact hsat, .tup [] [] rfl (λk x c h=>by simp at h)⟩
 ·have hll:(l.map (enc (X:=X))).length=l.length:=by simp
  rw[hll]at hcap hxl htake ⊢;have hval:∀(j:Nat) (y v':Value),xs[j]? =some y->(bb (l.map enc))[j]? =some (.v v')->y=v':=λj y v' h1 h2=>((hcells j y _ h1 h2).2).inv_v
  have hfl:bb (l.map enc)=(l.flatMap ev).map D.v:=by
   unfold bb;rw[List.flatMap_map,List.map_flatMap];congr 1;funext z;rw[hev z];rfl
  have hfml:=SI (f:=ev) (n:=k) (l:=l) (λx _=>hk x);have hxs:xs=l.flatMap ev:=by
   apply qAI;intro j;by_cases hj:j<l.length*k
   ·have e1:xs[j]? =some xs[j]:=qzR (by omega);have e2:(l.flatMap ev)[j]? =some (l.flatMap ev)[j]:=qzR (by omega);rw[e1,e2];congr 1;refine hval j _ _ e1 ?_;rw[hfl,qz1,e2];rfl
   ·rw[qAm (by omega),qAm (by omega)]
  have hcur:∀j,j<l.length*k->cur[j]? =(l.flatMap ev)[j]?:=λj hj=>by
   rw[<-hxs,<-htake,qz9,if_pos hj,qAg]
  have hgs:gb<w.heap.size:=(qzW.1 hgb).1;have hH:HoldsK ev k w gb 0 l.toArray:=by
   intro j hj;have hj':j<l.length*k:=by simpa using hj
   refine⟨?_,GB hgb⟩;rw[NE hgb,qAA,hcur j hj',<-Nb ev k hk l,qAg,qAM hj,getElem!_pos _ j hj];rfl
  have hcall:=AnyQ.slices_SortFunc_total L k aE zE ev hk (λx v hv=>(hone x v hv).1) cf hO g #[] gb 0 cap l.toArray w eg (qg4 hTb ev hev hone hg gb _ k w) hH hgs (by simp;omega) hT;simp only[qBp]at hcall;refine hcall.mono ?_;rintro e w' ⟨rfl,n,os,hw'⟩;generalize hl':(l.mergeSort λx y=>!(ltOf cf) y x)=l' at hw';have hlen':l'.length=l.length:=by rw[<-hl'];simp
  have hwo:∀b,b<w.heap.size->b≠gb->w'.heap[b]? =w.heap[b]?:=λb hb hne=>by
   rw[hw'];exact PS (w:=Sort.ahead w n) hb hne
  have hthis:w'.heap[gb]? =some (.cells (putCells _root_.id 0 (flatK ev k l'.toArray) cur) el (0,0)):=by
   rw[hw'];exact Vo (w:=Sort.ahead w n) hgb
  have hws:w.heap.size<=w'.heap.size:=by
   rw[hw'];simp[sortWorldK,grow,putRowK,putRow,mapBlock,Sort.ahead]
  have hos:w'.os=w.os/\w'.tape=w.tape/\w'.output=w.output/\w.drawn<=w'.drawn:=by
   rw[hw'];exact⟨rfl,rfl,rfl,Nat.le_add_right _ _⟩
  clear hw' hcall;have hbo:(Res.row (.slice (some ⟨gb,0,none⟩) l.length cap) el k (l.map enc)).blk=some gb:=rfl;have hid':H id=some (.row (.slice (some ⟨gb,0,none⟩) l.length cap) el k (l.map enc)):=by rw[hid,hll]
  have hown:bL H gb:=⟨id,_,hid',hbo⟩
  have htp:∀b,tp b->b≠gb:=λb hb e=>(hsat.out id _ gb hid' hbo).2 (e ▸hb)
  have htapes:∀b,tp b->TapeStep w w' b:=λb hb=> .same (hwo b (htl.1 b hb) (htp b hb))
  have hK':=hK l' (by simp only[qhz];rw[hl']);rw[hll]at hK';generalize hH2:ai H id (some (.row (.slice (some ⟨gb,0,none⟩) l.length cap) el k (l'.map enc)))=H2 at hK';have hown2:∀b,bL H2 b->bL H b:=λb ⟨i,r,h1,h2⟩=>by
   rw[<-hH2]at h1;simp only[ai]at h1;split at h1
   ·cases h1;cases h2;exact hown
   ·exact⟨i,r,h1,h2⟩
  have hmove:∀y c,R tp (bc O tp H w) w y c->R tp (bc O tp H2 w') w' y c:=λy c hr=>hr.mono (λ_ h=>h) (λb hb=>⟨⟨qAd hb.1 hws,hb.2.1,hb.2.2.1,λh=>hb.2.2.2 (hown2 b h)⟩,hwo b hb.1 (λe=>hb.2.2.2 (e ▸hown))⟩) htapes
  have hget:∀i r,H2 i=some r->(i=id/\r= .row (.slice (some ⟨gb,0,none⟩) l.length cap) el k (l'.map enc))\/(i≠id/\H i=some r):=λi r h=>by
   rw[<-hH2]at h;simp only[ai]at h;split at h
   ·rename_i e;cases h;exact .inl ⟨e,rfl⟩
   ·rename_i e;exact .inr ⟨e,h⟩
  refine⟨_,_,H2,tp,rfl,hK',λb h=>h,λb h=> .inl h,λb hb=>qAd (htl.1 b hb) hws,⟨hos.1,hos.2.1,hos.2.2.1,hws,λb hb ho ht=>hwo b hb (λe=>ho (e ▸hown)),htapes,λ_=>hos.2.2.2⟩,λb h=> .inl (hown2 b h),⟨?_,?_,?_⟩, .tup [] [] rfl (λk x c h=>by simp at h)⟩
  ·intro i j r s b h1 h2 h3 h4;rcases hget i r h1 with⟨rfl,rfl⟩|⟨n1,k1⟩
   ·rcases hget j s h2 with⟨rfl,rfl⟩|⟨n2,k2⟩
    ·rfl
    ·exact hsat.dis _ j _ s b hid' k2 h3 h4
   ·rcases hget j s h2 with⟨rfl,rfl⟩|⟨n2,k2⟩
    ·exact hsat.dis i _ r _ b k1 hid' h3 h4
    ·exact hsat.dis i j r s b k1 k2 h3 h4
  ·intro i r b h1 h2;rcases hget i r h1 with⟨rfl,rfl⟩|⟨n1,k1⟩
   ·exact hsat.out _ _ b hid' h2
   ·exact hsat.out i r b k1 h2
  ·intro i r h1;rcases hget i r h1 with⟨rfl,rfl⟩|⟨n1,k1⟩
   ·have hfml':=SI (f:=ev) (n:=k) (l:=l') (λx _=>hk x);have hps:(putCells _root_.id 0 (flatK ev k l'.toArray) cur).size=cur.size:=by simp[putCells]
    refine⟨l'.flatMap ev,⟨by simp;rw[<-List.length_flatMap];exact hfml', .inr ⟨gb,cap,_,by simp[hlen'],qAk _,hthis,by simp;omega,hcapm,by rw[hps,hsz],?_⟩⟩,λd hd=>?_,λj y c h1 h2=>?_⟩
    ·simp only[qAl,hlen'];apply qAI;intro j;rw[qz9];by_cases hj:j<l.length*k
     ·have hjc:j<cur.size:=by
       have:l.length*k<=cap*k:=qAr k hcap;omega
      have hjf:j<(flatK ev k l'.toArray).size:=by simp[hlen'];exact hj
      rw[if_pos hj,qAg,<-Nb ev k hk l',qAg];simp only[putCells,Array.getElem?_mapIdx,qAM hjc,qBb,qAk,qAA,hjf,and_self,if_true,Nat.sub_zero,id_eq];rw[qAM hjf,getElem!_pos _ j hjf]
     ·rw[if_neg hj,qAm (by rw[hfml',hlen'];omega)]
    ·obtain⟨z,_,rfl⟩:=qzV.1 hd;rw[hev z];exact⟨rfl,by simp[D.cells,hk]⟩
    ·have hfl':bb (l'.map enc)=(l'.flatMap ev).map D.v:=by
      unfold bb;rw[List.flatMap_map,List.map_flatMap];congr 1;funext z;rw[hev z];rfl
     rw[hfl',qz1,h1]at h2;cases h2;obtain⟨z,_,hz⟩:=qBv.1 (qzS h1);exact⟨(hone z y hz).1, .v y (hone z y hz).1 (hone z y hz).2⟩
   ·have hne:∀b,r.blk=some b->b≠gb:=λb hb e=>n1 (hsat.dis i id r _ gb k1 hid' (e ▸hb) hbo)
    exact(hsat.ok i r k1).conv hmove (λb hb=>hwo b ((hsat.ok i r k1).lt hb) (hne b hb))
end
instance:Inhabited Span:=⟨⟨0,0⟩⟩
def qyx(s:Span):List Value:=[.int .i64 s.b, .int .i64 s.e]
def zt(x y:Span):ltOf tg x y=decide (AP x y):=by
 unfold ltOf;have:=qg5 x y;by_cases h:AP x y
 ·simp only[h,decide_true,decide_eq_true_eq];by_cases h0:0<=tg x y
  ·exact absurd h (this.1 h0)
  ·omega
 ·simp only[h,decide_false,decide_eq_false_iff_not];have:=this.2 h;omega
def qlK:Go.Sort.SWO (ltOf tg) where
 irrefl x:=by rw[zt];simp[Gs]
 trans x y z h1 h2:=by rw[zt]at*;simp at*;exact Ir h1 h2
 ntrans x y z h1 h2:=by rw[zt]at*;simp at*;unfold AP at*;omega
def Ut{P:Program}{f:Nat}{X Y:Type}[Cod Y]{A:fS X}{pre pre':X->List Y->Prop}{post post':X->List Y->List Y->Prop}{el n:Nat}(h:Tri dq P f (qoh A pre post el n).pt)(h1:∀x l,pre' x l->pre x l)(h2:∀x l r,pre' x l->post x l r->post' x l r):
 Tri dq P f (qoh A pre' post' el n).pt:=λO tp w vs ds H d K a b c e g ⟨id,v,l,ds',x,k1,k2,k3,k4,k5⟩=>h O tp w vs ds H d K a b c e g ⟨id,v,l,ds',x,k1,k2,k3,h1 x l k4,λl' hp=>k5 l' (h2 x l l' k4 hp)⟩
end Go.Gv
