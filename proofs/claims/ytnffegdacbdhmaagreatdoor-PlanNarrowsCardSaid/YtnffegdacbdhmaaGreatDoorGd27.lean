/- Sh4 -/
import Derived.Shelf.SlLaysNS
import Derived.Ground.SlgnProg
import Derived.Test.YtnffegdacbdhmaaGreatDoorProg
import Derived.Shelf.SlIterI.Sorted
import Derived.DataShut
import Derived.Test.YtnffegdacbdhmaaGreatDoorGd26
set_option linter.all false
set_option maxRecDepth 100000
set_option maxHeartbeats 0
open Bool renaming forall_bool → fB', exists_bool → eB'
namespace Go.Proofs
open Go.Shelf
def Tryz.sortSource_ren:Go.Shelf.Ren:=⟨λ|6=>127|15=>147|14=>191|28=>211|29=>212|20=>244|21=>245|22=>246|23=>247|24=>248|25=>249|26=>250|27=>251|46=>282|47=>262|48=>263|49=>283|50=>284|57=>304|n=>n,λ|22=>47|24=>50|25=>136|3=>3|39=>141|0=>0|53=>256|55=>258|4=>4|46=>250|45=>249|50=>90|5=>5|9=>9|66=>294|70=>298|76=>324|77=>127|n=>n,λ|n=>n⟩
theorem Tryz.sortSource:Go.Proofs.SlLaysF0.n6 Tryz.prog Tryz.sortSource_ren:={
 mixed:=by kernel_rfl
 f6:=⟨Tryz.f127.name,by decide,Tryz.func127.trans (congrArg some (by kernel_rfl))⟩
 f14:=⟨Tryz.f191.name,by decide,Tryz.func191.trans (congrArg some (by kernel_rfl))⟩
 f15:=Tryz.func147.trans (congrArg some (by kernel_rfl))
 f20:=⟨Tryz.f244.name,by decide,Tryz.func244.trans (congrArg some (by kernel_rfl))⟩
 f21:=⟨Tryz.f245.name,by decide,Tryz.func245.trans (congrArg some (by kernel_rfl))⟩
 f22:=⟨Tryz.f246.name,by decide,Tryz.func246.trans (congrArg some (by kernel_rfl))⟩
 f23:=⟨Tryz.f247.name,by decide,Tryz.func247.trans (congrArg some (by kernel_rfl))⟩
 f24:=⟨Tryz.f248.name,by decide,Tryz.func248.trans (congrArg some (by kernel_rfl))⟩
 f25:=⟨Tryz.f249.name,by decide,Tryz.func249.trans (congrArg some (by kernel_rfl))⟩
 f26:=⟨Tryz.f250.name,by decide,Tryz.func250.trans (congrArg some (by kernel_rfl))⟩
 f27:=⟨Tryz.f251.name,by decide,Tryz.func251.trans (congrArg some (by kernel_rfl))⟩
 f28:=Tryz.func211.trans (congrArg some (by kernel_rfl))
 f29:=Tryz.func212.trans (congrArg some (by kernel_rfl))
 f46:=⟨Tryz.f282.name,by decide,Tryz.func282.trans (congrArg some (by kernel_rfl))⟩
 f47:=Tryz.func262.trans (congrArg some (by kernel_rfl))
 f48:=Tryz.func263.trans (congrArg some (by kernel_rfl))
 f49:=⟨Tryz.f283.name,by decide,Tryz.func283.trans (congrArg some (by kernel_rfl))⟩
 f50:=⟨Tryz.f284.name,by decide,Tryz.func284.trans (congrArg some (by kernel_rfl))⟩
 f57:=⟨Tryz.f304.name,by decide,Tryz.func304.trans (congrArg some (by kernel_rfl))⟩
 t0:=Tryz.underlying0
 a0:=Tryz.isAgg0
 z0:=Tryz.sizeOf0
 v0:=Tryz.zeroValue0
 t3:=Tryz.underlying3
 a3:=Tryz.isAgg3
 z3:=Tryz.sizeOf3
 v3:=Tryz.zeroValue3
 t4:=Tryz.underlying4
 a4:=Tryz.isAgg4
 z4:=Tryz.sizeOf4
 v4:=Tryz.zeroValue4
 t5:=Tryz.underlying5
 a5:=Tryz.isAgg5
 z5:=Tryz.sizeOf5
 v5:=Tryz.zeroValue5
 t9:=Tryz.underlying9
 a9:=Tryz.isAgg9
 z9:=Tryz.sizeOf9
 v9:=Tryz.zeroValue9
 t22:=Tryz.underlying47
 a22:=Tryz.isAgg47
 z22:=Tryz.sizeOf47
 v22:=Tryz.zeroValue47
 t25:=Tryz.underlying136
 a25:=Tryz.isAgg136
 z25:=Tryz.sizeOf136
 v25:=Tryz.zeroValue136
 t39:=Tryz.underlying141
 a39:=Tryz.isAgg141
 z39:=Tryz.sizeOf141
 v39:=Tryz.zeroValue141
 t45:=Tryz.underlying249
 a45:=Tryz.isAgg249
 z45:=Tryz.sizeOf249
 v45:=Tryz.zeroValue249
 t46:=Tryz.underlying250
 a46:=Tryz.isAgg250
 z46:=Tryz.sizeOf250
 v46:=Tryz.zeroValue250
 t50:=Tryz.underlying90
 a50:=Tryz.isAgg90
 z50:=Tryz.sizeOf90
 v50:=Tryz.zeroValue90
 t53:=Tryz.underlying256
 a53:=Tryz.isAgg256
 z53:=Tryz.sizeOf256
 v53:=Tryz.zeroValue256
 t55:=Tryz.underlying258
 a55:=Tryz.isAgg258
 z55:=Tryz.sizeOf258
 v55:=Tryz.zeroValue258
 t66:=Tryz.underlying294
 a66:=Tryz.isAgg294
 z66:=Tryz.sizeOf294
 v66:=Tryz.zeroValue294
 t70:=Tryz.underlying298
 a70:=Tryz.isAgg298
 z70:=Tryz.sizeOf298
 v70:=Tryz.zeroValue298
 t76:=Tryz.underlying324
 a76:=Tryz.isAgg324
 z76:=Tryz.sizeOf324
 v76:=Tryz.zeroValue324
 t77:=Tryz.underlying127
 a77:=Tryz.isAgg127
 z77:=Tryz.sizeOf127
 v77:=Tryz.zeroValue127 }
def Tryz.sortInt_ren:Go.Shelf.Ren:=⟨λ|53=>79|64=>147|63=>146|78=>211|79=>212|70=>203|71=>204|72=>205|73=>206|74=>207|75=>208|59=>76|76=>209|77=>210|88=>261|89=>262|90=>263|91=>264|92=>265|68=>144|96=>294|n=>n,λ|22=>22|23=>3|3=>3|51=>141|0=>0|67=>256|69=>258|4=>4|61=>250|60=>249|44=>90|5=>5|9=>9|75=>294|79=>298|83=>324|84=>127|n=>n,λ|n=>n⟩
theorem Tryz.sortInt:Go.Proofs.SlLaysN.n53 Tryz.prog Tryz.sortInt_ren:={
 mixed:=by kernel_rfl
 f53:=⟨Tryz.f79.name,by decide,Tryz.func79.trans (congrArg some (by kernel_rfl))⟩
 f59:=⟨Tryz.f76.name,by decide,Tryz.func76.trans (congrArg some (by kernel_rfl))⟩
 f63:=⟨Tryz.f146.name,by decide,Tryz.func146.trans (congrArg some (by kernel_rfl))⟩
 f64:=Tryz.func147.trans (congrArg some (by kernel_rfl))
 f68:=⟨Tryz.f144.name,by decide,Tryz.func144.trans (congrArg some (by kernel_rfl))⟩
 f70:=⟨Tryz.f203.name,by decide,Tryz.func203.trans (congrArg some (by kernel_rfl))⟩
 f71:=⟨Tryz.f204.name,by decide,Tryz.func204.trans (congrArg some (by kernel_rfl))⟩
 f72:=⟨Tryz.f205.name,by decide,Tryz.func205.trans (congrArg some (by kernel_rfl))⟩
 f73:=⟨Tryz.f206.name,by decide,Tryz.func206.trans (congrArg some (by kernel_rfl))⟩
 f74:=⟨Tryz.f207.name,by decide,Tryz.func207.trans (congrArg some (by kernel_rfl))⟩
 f75:=⟨Tryz.f208.name,by decide,Tryz.func208.trans (congrArg some (by kernel_rfl))⟩
 f76:=⟨Tryz.f209.name,by decide,Tryz.func209.trans (congrArg some (by kernel_rfl))⟩
 f77:=⟨Tryz.f210.name,by decide,Tryz.func210.trans (congrArg some (by kernel_rfl))⟩
 f78:=Tryz.func211.trans (congrArg some (by kernel_rfl))
 f79:=Tryz.func212.trans (congrArg some (by kernel_rfl))
 f88:=⟨Tryz.f261.name,by decide,Tryz.func261.trans (congrArg some (by kernel_rfl))⟩
 f89:=Tryz.func262.trans (congrArg some (by kernel_rfl))
 f90:=Tryz.func263.trans (congrArg some (by kernel_rfl))
 f91:=⟨Tryz.f264.name,by decide,Tryz.func264.trans (congrArg some (by kernel_rfl))⟩
 f92:=⟨Tryz.f265.name,by decide,Tryz.func265.trans (congrArg some (by kernel_rfl))⟩
 f96:=⟨Tryz.f294.name,by decide,Tryz.func294.trans (congrArg some (by kernel_rfl))⟩
 t0:=Tryz.underlying0
 a0:=Tryz.isAgg0
 z0:=Tryz.sizeOf0
 v0:=Tryz.zeroValue0
 t3:=Tryz.underlying3
 a3:=Tryz.isAgg3
 z3:=Tryz.sizeOf3
 v3:=Tryz.zeroValue3
 t4:=Tryz.underlying4
 a4:=Tryz.isAgg4
 z4:=Tryz.sizeOf4
 v4:=Tryz.zeroValue4
 t5:=Tryz.underlying5
 a5:=Tryz.isAgg5
 z5:=Tryz.sizeOf5
 v5:=Tryz.zeroValue5
 t9:=Tryz.underlying9
 a9:=Tryz.isAgg9
 z9:=Tryz.sizeOf9
 v9:=Tryz.zeroValue9
 t22:=Tryz.underlying22
 a22:=Tryz.isAgg22
 z22:=Tryz.sizeOf22
 v22:=Tryz.zeroValue22
 t23:=Tryz.underlying3
 a23:=Tryz.isAgg3
 z23:=Tryz.sizeOf3
 v23:=Tryz.zeroValue3
 t44:=Tryz.underlying90
 a44:=Tryz.isAgg90
 z44:=Tryz.sizeOf90
 v44:=Tryz.zeroValue90
 t51:=Tryz.underlying141
 a51:=Tryz.isAgg141
 z51:=Tryz.sizeOf141
 v51:=Tryz.zeroValue141
 t60:=Tryz.underlying249
 a60:=Tryz.isAgg249
 z60:=Tryz.sizeOf249
 v60:=Tryz.zeroValue249
 t61:=Tryz.underlying250
 a61:=Tryz.isAgg250
 z61:=Tryz.sizeOf250
 v61:=Tryz.zeroValue250
 t67:=Tryz.underlying256
 a67:=Tryz.isAgg256
 z67:=Tryz.sizeOf256
 v67:=Tryz.zeroValue256
 t69:=Tryz.underlying258
 a69:=Tryz.isAgg258
 z69:=Tryz.sizeOf258
 v69:=Tryz.zeroValue258
 t75:=Tryz.underlying294
 a75:=Tryz.isAgg294
 z75:=Tryz.sizeOf294
 v75:=Tryz.zeroValue294
 t79:=Tryz.underlying298
 a79:=Tryz.isAgg298
 z79:=Tryz.sizeOf298
 v79:=Tryz.zeroValue298
 t83:=Tryz.underlying324
 a83:=Tryz.isAgg324
 z83:=Tryz.sizeOf324
 v83:=Tryz.zeroValue324
 t84:=Tryz.underlying127
 a84:=Tryz.isAgg127
 z84:=Tryz.sizeOf127
 v84:=Tryz.zeroValue127 }
end Go.Proofs
namespace Go.Gv
open Go.Proofs
def sS:CC:=gq Tryz.f70 [2,3] {} _
def sq:List ak:=[.tmp 4]
def Kn:FO uS [2,3] sS sq 17:=fo
def qO:CC:=gq Tryz.f29 [2] {} _
def qk:List ak:=[.tmp 4]
def Ib:FO sD [2] qO qk 37:=fo
def vv:CC:=gq Tryz.f11 [3,4] { bx:=[99,100] } _
def uv:List ak:=[.tmp 6, .tmp 7]
def MF:FO rp [3,4] vv uv 101:=fo
def Ac:CC:=gq Tryz.f37 [2,3] {} _
def yT:List ak:=[.tmp 4, .tmp 5]
def Sh:FO BY [2,3] Ac yT 50:=fo
def vz:CC:=gq Tryz.f13 [] {} _
def uy:List ak:=[.tmp 0]
def MJ:FO wV [] vz uy 60:=fo
def fN:CC:=gq Tryz.f71 [3] {} _
def fH:List ak:=[.tmp 4]
def vO:FO gD [3] fN fH 9:=fo
def iX:CC:=gq Tryz.f132 [3] {} _
def iE:List ak:=[.tmp 4]
def zg:FO jG [3] iX iE 19:=fo
def fD:CC:=gq Tryz.f32 [] {} _
def fw:List ak:=[.tmp 4, .tmp 5]
def uF:FO fM [] fD fw 54:=fo
def sY:CC:=gq Tryz.f76 [] {} _
def sy:List ak:=[.tmp 4]
def Kt:FO uX [] sY sy 17:=fo
def mr:CC:=gq Tryz.f77 [] {} _
def lS:List ak:=[.tmp 2]
def CX:FO nl [] mr lS 6:=fo
def nB:CC:=gq Tryz.f92 [2,3] {} _
def ng:List ak:=[.tmp 4, .tmp 5]
def Ej:FO pm [2,3] nB ng 43:=fo
def pN:CC:=gq Tryz.f154 [2,3] {} _
def ou:List ak:=[.tmp 4, .tmp 5]
def Gi:FO qE [2,3] pN ou 17:=fo
open Cod (enc dec)
variable {S S0:Nat->Spc}
def Lr(h1:S eP=nT)(h2:S pv=yD):am sS sq S (a2 Span Span) (λ_=>True) (enc (X:=Int)) λx y=>y=rQ x.1 x.2:=by
 rintro⟨a,b⟩ -;simp[sS,sq,h1,h2,rQ];by_cases h:NA a.b b.b=0
 ·by_cases h':NA a.e b.e=0
  ·simp[h,h']
  ·simp[h,h']
 ·simp[h]
def Wf(l:List Span)(s:Span):Bool:=l.any λz=>decide (z=s)
def Ir{l:List Span}{s:Span} :Wf l s=true↔s∈l:=by simp[Wf]
abbrev Z3:Spc:=aL (a2 (List Span) Span) (λ_=>True) (enc (X:=Int)) λx y=>y=kB x.1 λz=>decide (z=x.2)
theorem Lu:am iX iE S (a2 (List Span) Span) (λ_=>True) (enc (X:=Int)) λx y=>y=kB x.1 λz=>decide (z=x.2):=by
 rintro⟨l,s⟩ -;simp[iX,iE,-fB',-eB'];intro _;refine ah (X:=Unit) [0,3] [] l.length (λk _=>∀x∈l.take k,decide (x=s)=false) (λ_=>[]) (λ_=>[]) () (by simp) ?_ ?_
 ·intro k _ hk hP;obtain⟨x,hx⟩:=ed hk;obtain⟨_,hgx⟩:=qzV.1 hx;simp[hk,hx,hgx,-fB',-eB'];have hpe:s.b=x.b->s.e=x.e->x=s:=λh1 h2=>by
   obtain⟨a,b⟩:=x;obtain⟨a',b'⟩:=s;simp only at h1 h2;rw[h1,h2]
  refine⟨λh1 h2=>(tF hx (by simp[hpe h1 h2]) hP).symm,λh=>?_⟩;rw[au hx];intro z hz;rcases qz5.1 hz with hz|hz
  ·have:=hP z hz;simpa using this
  ·simp at hz;subst hz;intro e;subst e;exact h rfl rfl
 ·intro _ hP;simp at hP;simp;exact(lK (λx hx=>by simp[hP x hx])).symm
abbrev Z8:Spc:=aL (a2 (List Span) Span) (λ_=>True) (enc (X:=Bool)) λx y=>y=Wf x.1 x.2
def Fs(h1:S jG=Z3):am fN fH S (a2 (List Span) Span) (λ_=>True) (enc (X:=Bool)) λx y=>y=Wf x.1 x.2:=by
 rintro⟨l,s⟩ -;simp[fN,fH,h1,-fB',-eB'];exact zy _ l
def qfd(F l:List Span)(k:Nat):Prop:=∀x,l[k]? =some x->x∈F/\∀y,0<k->l[k -1]? =some y->rQ y x< 0
def ZI(F l:List Span):Prop:=∀k,qfd F l k
def Tn(x:Qry×List Span)(y:Int):Prop:=∃F,gw x.1.pat F/\(y=0/\ZI F x.2\/y=18/\ ¬ZI F x.2)
abbrev Am:Spc:=aL (a2 Qry (List Span)) (λx=>pS x.1.pat/\x.2.length<=100000) (enc (X:=Int)) Tn
theorem JW(h1:S lN=qd)(h2:S uS=mY)(h3:S gD=Z8):am qO qk S (a2 Qry (List Span)) (λx=>pS x.1.pat/\x.2.length<=100000) (enc (X:=Int)) Tn:=by
 rintro⟨q,l⟩ ⟨hp,hl⟩;have hp:pS q.pat:=hp;have hl:l.length<=100000:=hl;simp[qO,qk,h1,h2,h3,hp,-fB',-eB'];intro F hF hll;refine ah (X:=Unit) [1,5,11] [] l.length (λk _=>∀j,j<k->qfd F l j) (λ_=>[]) (λ_=>[]) () (by simp) ?_ ?_
 ·intro k _ hk hP;obtain⟨x,hx⟩:=ed hk;obtain⟨_,hgx⟩:=qzV.1 hx;have snoc:qfd F l k->∀j,j<k+1->qfd F l j:=λh j hj=>by
   rcases Nat.lt_succ_iff_lt_or_eq.1 hj with h1|rfl
   ·exact hP j h1
   ·exact h
  have bad:¬qfd F l k->Tn (q,l) 18:=λh=>⟨F,hF, .inr ⟨rfl,λh2=>h (h2 k)⟩⟩
  have nin:Wf F x=false->Tn (q,l) 18:=λh=>bad λh2=>by
   have:=Ir.2 (h2 x hx).1;rw[h]at this;cases this
  rcases qA4 k with rfl|hk0
  ·simp[hk,hx,hgx,h2,h3,-fB',-eB'];exact⟨nin,λh z hz=>by rw[hx]at hz;cases hz;exact⟨Ir.1 h,λ_ h0=>by omega⟩⟩
  ·obtain⟨y,hy⟩:=ed (show k -1<l.length by omega);obtain⟨_,hgy⟩:=qzV.1 hy;simp[hk,hx,hgx,h2,h3,hk0,hy,hgy,-fB',-eB'];refine⟨⟨by omega,by omega⟩,by omega,by omega,λhc=>⟨nin,λh=>snoc λz hz=>?_⟩,λhc=>bad λh2=>?_⟩
   ·rw[hx]at hz;cases hz;exact⟨Ir.1 h,λy' _ hy'=>by rw[hy]at hy';cases hy';exact hc⟩
   ·have:=(h2 x hx).2 y hk0 hy;omega
 ·intro _ hP;simp;exact⟨F,hF, .inl ⟨rfl,λk=>by
   by_cases h:k<l.length
   ·exact hP k h
   ·intro x hx;rw[qAt (by simpa using h)]at hx;cases hx⟩⟩
def X3(h1:S mW=rY):am sY sy S (a2 Int Int) (λ_=>True) (enc (X:=Bool)) λx y=>y=decide (x.1<x.2):=by
 rintro⟨a,b⟩ -;simp[sY,sy,h1]
def za{l:List Int}(hs:l.Pairwise (· < ·)){i j:Nat}{a b:Int}(h:i<j)(ha:l[i]? =some a)(hb:l[j]? =some b):a<b:=by
 obtain⟨h1,rfl⟩:=qzV.1 ha;obtain⟨h2,rfl⟩:=qzV.1 hb;exact qA1.1 hs i j h1 h2 h
abbrev qem:Spc:=aL (a1 Int) (λ_=>True) (enc (X:=Bool)) λ_ y=>y=false
def qlq:am mr lS S (a1 Int) (λ_=>True) (enc (X:=Bool)) λ_ y=>y=false:=by
 rintro a -;simp[mr,lS]
abbrev qeF:Spc:=aL (a2 Int Int) (λ_=>True) (enc (X:=Bool)) λx y=>y=decide (x.1<x.2)
abbrev qeL:Spc:=aL (a2 (List Int) Int) (λx=>x.1.Pairwise (· < ·)/\x.1.length<=1000000) (mj (Y:=Int) (Z:=Bool)) λx y=>y.2=decide (x.2∈x.1)
theorem qly(h1:S uX=qeF)(h2:S nl=qem):am fD fw S (a2 (List Int) Int) (λx=>x.1.Pairwise (· < ·)/\x.1.length<=1000000) (mj (Y:=Int) (Z:=Bool)) λx y=>y.2=decide (x.2∈x.1):=by
 rintro⟨l,x⟩ ⟨hs,hl⟩;have hs:l.Pairwise (· < ·):=hs;have hl:l.length<=1000000:=hl;simp[fD,fw,h1,h2,-fB',-eB'];intro hll;refine ay (X:=Nat×Nat) [0,1,6] [] (λz=>z.1<=z.2/\z.2<=l.length/\(∀k v,k<z.1->l[k]? =some v->v<x)/\∀k v,z.2<=k->l[k]? =some v->x<=v) (λz=>[(7,enc (z.1:Int)),(8,enc (z.2:Int))]) (λ_=>[]) (λz=>z.2 -z.1) (0,l.length) ⟨qAr _,qz2 _,λk v h=>by omega,λk v h h2=>by rw[qAt h]at h2;cases h2⟩ ?_;rintro⟨i,j⟩ ⟨p1,p2,p3,p4⟩;simp only at p1 p2 p3 p4;have e0:Yt .u64 (IntKind.u64.wrap ((i:Int) +j)) 1=(((i+j) /2:Nat):Int):=by
  rw[InR.wrap (show InR .u64 ((i:Int) +j)from⟨by omega,by omega⟩)];show Int.fdiv _ (2^1)=_;rw[Int.fdiv_eq_ediv_of_nonneg _ (by decide)];omega
 have e1:IntKind.i64.wrap (((i:Int) +j) /2)=(((i+j) /2:Nat):Int):=by
  rw[InR.wrap (show InR .i64 (((i:Int) +j) /2)from⟨by omega,by omega⟩)];omega
 by_cases hij:i<j
 ·obtain⟨y,hy⟩:=ed (show(i+j) /2<l.length by omega);obtain⟨_,hgy⟩:=qzV.1 hy;simp[h1,hij,e0,-fB',-eB'];rw[e1];refine⟨⟨by omega,by omega⟩,by omega,by omega,λa ha=>?_⟩;rw[qCb,hy]at ha;cases ha;refine⟨λh=>⟨⟨by omega,by omega⟩,(i+j) /2+1,j,⟨by omega,p2,λk v hk hv=>?_,p4⟩,⟨by omega,rfl⟩,by omega⟩,λh=>⟨i,(i+j) /2,⟨by omega,by omega,p3,λk v hk hv=>?_⟩,⟨rfl,rfl⟩,by omega⟩⟩
  ·rcases Nat.lt_or_ge k ((i+j) /2)with h5|h5
   ·have:=za hs h5 hv hy;omega
   ·have:k=(i+j) /2:=by omega
    subst this;rw[hy]at hv;cases hv;exact h
  ·rcases Nat.lt_or_ge ((i+j) /2) k with h5|h5
   ·have:=za hs h5 hy hv;omega
   ·have:k=(i+j) /2:=by omega
    subst this;rw[hy]at hv;cases hv;exact h
 ·have hij2:j=i:=by omega
  subst hij2;by_cases hj:j<l.length
  ·obtain⟨y,hy⟩:=ed hj;obtain⟨_,hgy⟩:=qzV.1 hy;have hjI:(j:Int)<l.length:=by omega
   by_cases hyx:y=x
   ·simp[h1,h2,hjI,hj,hy,hgy,hyx,-fB',-eB'];exact qzY (hyx ▸hy)
   ·simp[h1,h2,hjI,hj,hy,hgy,hyx,-fB',-eB'];intro hm;obtain⟨k,hk⟩:=qAp.1 hm;have:=p4 j y (qz2 _) hy;rcases Nat.lt_or_ge k j with h5|h5
    ·have:=p3 k x h5 hk;omega
    ·rcases Nat.lt_or_eq_of_le h5 with h6|h6
     ·have:=za hs h6 hy hk;omega
     ·subst h6;rw[hy]at hk;cases hk;exact hyx rfl
  ·have hjI:¬(j:Int)<l.length:=by omega
   simp[h1,h2,hjI,hj,-fB',-eB'];intro hm;obtain⟨k,hk⟩:=qAp.1 hm;have:=(qzV.1 hk).1;have:=p3 k x (by omega) hk;omega
end Go.Gv
namespace Go.Gv
variable {dq:Prop}
open Cod (enc dec)
open Go.Proofs Go.Shelf Go.RowKit Go.Maps Go.Sort
def qmF(g:Nat):PT:=λd ds H K=>∃id x es,ds=[.own id x]/\H id=some (.mrow x es)/\∀b,K (.clo g [.bptr d b 0]) (ai H d (some (.box b [.own id x])))
def qcC(g:Nat):qZ (qmF g):=λd ds H K K' hk ⟨id,x,es,h1,h2,h3⟩=>⟨id,x,es,h1,h2,λb=>hk _ _ (h3 b)⟩
def qaJ(g:Nat):Spc:= .gen _ (qcC g)
def VY(g d:Nat)(id:Nat)(x:Value)(r:Option Res)(H:ab)(K:D->ab->Prop):Prop:=match r with
 |some (.mrow x' es)=>x'=x/\∀b,K (.clo g [.bptr d b 0]) (ai H d (some (.box b [.own id x'])))
 | _=>False
@[simp] theorem qsS(g d id:Nat)(x x':Value)(es:List D)(H:ab)(K:D->ab->Prop):VY g d id x (some (.mrow x' es)) H K=(x'=x/\∀b,K (.clo g [.bptr d b 0]) (ai H d (some (.box b [.own id x'])))):=i' rfl
@[congr] theorem qpP{g d id:Nat}{x:Value}{r r':Option Res}{H:ab}{K:D->ab->Prop}(h:r=r'):VY g d id x r H K=VY g d id x r' H K:=by subst h;rfl
@[simp] theorem qpQ(g d i:Nat)(x:Value)(H:ab)(K:D->ab->Prop):(qaJ g).pt d [.own i x] H K=VY g d i x (H i) H K:=by
 refine propext ⟨λh=>?_,λh=>?_⟩
 ·obtain⟨id,x',es,h1,h2,h3⟩:=h;cases h1;rw[h2];exact⟨rfl,h3⟩
 ·unfold VY at h;split at h
  ·rename_i x' es hr;obtain⟨rfl,h⟩:=h;exact⟨i,x',es,rfl,hr,h⟩
  ·exact h.elim
def qd4(g:Nat):PT:=λd ds H K=>∃(i b j:Nat) (x:Value) (ks:List Int),ds=[.clo g [.bptr i b 0]]/\H i=some (.box b [.own j x])/\H j=some (.mrow x (jj ks))/\ks.Nodup/\ks.length<=1000000/\(∀k∈ks,0<=k/\k<=1000000)/\
 ∀v,K (.own d v) (ai H d (some (.row v bb 1 ((ks.mergeSort (λx y=>decide (x<=y))).map enc))))
def UO(g:Nat):qZ (qd4 g):=λd ds H K K' hk ⟨i,b,j,x,ks,h1,h2,h3,h4,h5,h6,h7⟩=>⟨i,b,j,x,ks,h1,h2,h3,h4,h5,h6,λv=>hk _ _ (h7 v)⟩
def Rq(g:Nat):Spc:= .gen _ (UO g)
section
variable {P:Program}{ρ:Ren}
theorem qdO{fk:Nat}(L:SlLaysZI.n7 P ρ)(hf:ρ.f 7=fk)(ef:ee P fk):Tri dq P fk (qaJ (ρ.f 10)).pt:=by
 subst hf;intro O tp w vs ds H d K hO htl hsat hlen hargs hA;obtain⟨id,x,es,rfl,hid,hK⟩:=hA
 match vs,hlen,hargs with
 | [v0],_,hargs=>
 have e0:v0=x:=by
  have:=hargs 0 v0 _ rfl rfl;cases this;rfl
 subst e0;obtain⟨mb,ents,clock,rfl,h1,h2,h3⟩:=hsat.ok id _ hid;refine⟨ef,((callsIn_wide (n:=6)).1 (AnyZI.keys_in L Fence.wide 6 trivial rfl (some mb) w)).mono ?_⟩;rintro e w' ⟨rfl,rfl⟩;have hW:StW ⟨O,tp,w,bL H,0, [],dq⟩ tp H w:=⟨hO,λ_ h=>h,λ_ h=> .inl h,⟨htl.1,htl.2⟩, .refl _ _ _,λ_ h=> .inl h,hsat⟩
 obtain⟨hm,mv⟩:=oz (t:=d) (ob:= .cells #[.map (some mb)] (ρ.t 23)) (r':= .box w.heap.size [.own id (.map (some mb))]) hW (λb hb=>by cases hb;rfl) (λmv=>⟨#[.map (some mb)],ρ.t 23,heap_alloc_new _ _,rfl,λk y c hy hc=>by
  match k with
  | 0=>simp at hy hc;subst hy;subst hc;exact⟨rfl, .own _ _ rfl⟩
  |k+1=>simp at hc⟩)
 refine⟨_,_,_,tp,rfl,hK w.heap.size,λ_ h=>h,λ_ h=> .inl h,hm.tpl.1,hm.step,hm.loc,hm.sat,?_⟩;exact .clo _ [.pointer (some ⟨w.heap.size,0,none⟩)] [.bptr d w.heap.size 0] rfl (λk y c hy hc=>by
  match k with
  | 0=>simp at hy hc;subst hy;subst hc;exact .bptr _ _ _
  |k+1=>simp at hc)
def MO:∀{ks:List Int},ks.Nodup->(ks.map (Value.int .i64)).Nodup
 | [],_=>qB7
 | a::l,h=>by
   have h:=qA3.1 h;refine qA3.2 ⟨λhm=>?_,MO h.2⟩;obtain⟨b,hb,e⟩:=qz1.1 hm;injection e with _ e;subst e;exact h.1 hb
theorem qb5{k:TypeId}(hk:P.underlying k=some (.int .i64)){w:World}{mb clock:Nat}{ents:Array MapEntry}{ks:List Int}(hb:w.heap[mb]? =some (.map ents clock))(hbo:pT ents clock)(hl:ents.size=ks.length)(hn:ks.Nodup)(hlen:ks.length<=1000000)
 (hr:∀k∈ks,0<=k/\k<=1000000) (he:∀(i:Nat) (e:MapEntry) (k:Int),ents[i]? =some e->ks[i]? =some k->e.key= .int .i64 k):
 ∃D0:DataW Unit,w.ownsMap P k (λ_=>some (.nil, [])) mb ents.size D0/\(intKeys D0).Perm ks/\Maps.size D0=ks.length:=by
 have hkeys:ents.toList.map (·.key)=ks.map (Value.int .i64):=by
  refine qAO λi=>?_
  rw[qz7,qz7,qAn];by_cases hi:i<ks.length
  ·have e1:ents[i]? =some (ents[i]'(by omega)):=qAS (by omega);rw[e1,qzX hi];simp only[qBh];rw[he i _ _ e1 (qzX hi)]
  ·rw[qBn (by omega),qAt (by omega)];rfl
 have hrd:∀x∈ents.toList,∃n∈ks,x.key= .int .i64 n/\WideElems.rd (H:=Unit) P k (λ_=>some (.nil, [])) x=some (.int .i64 n, .nil):=λx hx=>by
  have:x.key∈ks.map (Value.int .i64):=by rw[<-hkeys];exact qz1.2 ⟨x,hx,rfl⟩
  obtain⟨n,hn1,hn2⟩:=qz1.1 this;have hr1:=hr n hn1;refine⟨n,hn1,hn2.symm,?_⟩;have hw:(Lit.int .i64 n).wf=true:=by
   exact(Lit.wf_int_iff .i64 n).2 ⟨by have:IntKind.i64.min= -9223372036854775808:=rfl;omega,by have:IntKind.i64.max=9223372036854775807:=rfl;omega⟩
  simp[WideElems.rd,<-hn2,keyOf,hk,mapKey,hw]
 have F:WideElems.Fit (H:=Unit) P k (λ_=>some (.nil, [])) ents clock:=⟨by rw[hl];exact qAx hlen (by decide),⟨hbo.1,hbo.2,by rw[hkeys];exact MO hn⟩,λx hx=>by
  obtain⟨n,_,_,h⟩:=hrd x hx;exact⟨_,h⟩⟩
 have hown:=World.ownsMap_of_fit (R:=λ_=>some (.nil, [])) hb F (λ_ _ _ h=>h);refine⟨_,hown,?_,?_⟩
 ·show(((ents.toList.map (WideElems.rg P k _)).foldr DataW.insert []).map λp=>intOf p.1).Perm ks;refine((WideShapes.sorted_perm _).map _).trans ?_;rw[List.map_map];have:ents.toList.map ((λp:Lit×DataW Unit=>intOf p.1) ∘WideElems.rg P k λ_=>some (.nil, []))=ks:=by
   have h2:ents.toList.map ((λp:Lit×DataW Unit=>intOf p.1) ∘WideElems.rg P k λ_=>some (.nil, []))=(ents.toList.map (·.key)).map λv=>match v with| .int _ n=>n|_=>0:=by
    rw[List.map_map];refine qA2 λx hx=>?_
    obtain⟨n,_,hn2,h⟩:=hrd x hx;simp only[Function.comp];rw[WideElems.rg_of h,hn2];rfl
   rw[h2,hkeys,List.map_map];exact List.map_id'' (λ_=>rfl) ks
  rw[this]
 ·show((ents.toList.map (WideElems.rg P k _)).foldr DataW.insert []).length=_;rw[DataW.length_sorted,qAs,qAi,hl]
theorem Yj{fs fk:Nat}{ρ7:Ren}(hdq:¬dq)(L:SlLaysZI.n6 P ρ)(L7:SlLaysZI.n7 P ρ7)(hf:ρ.f 6=fs)(ef:ee P fs)(hty:ρ.t 26=bb)(hsort:∀m,AnyZI.SortsIn P ρ Fence.wide m)
 (e9:∀args w,(callFunc (ρ.f 9) args).run P w= .ok (.enter (ρ.f 9) args) w) (e10:∀args w,(callFunc (ρ7.f 10) args).run P w= .ok (.enter (ρ7.f 10) args) w):Tri dq P fs (Rq (ρ7.f 10)).pt:=by
 subst hf;intro O tp w vs ds H d K hO htl hsat hlen hargs hA;obtain⟨i,b,j,x,ks,rfl,hi,hj,hn,hl,hr,hK⟩:=hA
 match vs,hlen,hargs with
 | [v0],_,hargs=>
 have hv:=hargs 0 v0 _ rfl rfl;obtain⟨xs0,el0,hb1,hb2,hb3⟩:=hsat.ok i _ hi;obtain⟨mb,ents,clock,rfl,h1,h2,h3⟩:=hsat.ok j _ hj;have hx0:xs0= #[.map (some mb)]:=by
  obtain⟨⟨y,hy⟩⟩:Nonempty {y//xs0= #[y]} :=by
   rcases xs0 with⟨l⟩
   match l,hb2 with
   | [y],_=>exact⟨⟨y,rfl⟩⟩
  subst hy;have:=(hb3 0 y _ rfl rfl).2;cases this;rfl
 subst hx0;have hcell:w.cell? ⟨b,0,none⟩=some (.map (some mb)):=by simp[World.cell?,hb1]
 have hbl:b<w.heap.size:=(qz3.1 hb1).1;have u26:=L7.t26;have hsz:(jj ks).length=ks.length:=by simp[jj]
 obtain⟨D0,hown,hperm,hms⟩:=qb5 (P:=P) (k:=ρ7.t 26) u26 h1 h2 (by rw[h3.1,hsz]) hn hl hr (λi e k he hk=>by
  have hc:(jj ks)[i]? =some (.tup [enc k, .v (.bool true)]):=by simp[jj,hk]
  have:=h3.2 i e _ he hc;have:=this.ent.1;exact this.inv_v)
 have hseq:=AnyZI.keys_gives (ρ:=ρ7) { L7 with } Fence.wide 3 trivial rfl (by omega) b mb _ D0 w hbl hcell hown;have hv0:v0= .func (.func (ρ7.f 10)) #[] #[.pointer (some ⟨b,0,none⟩)]:=by
  cases hv with
  | clo _ ys _ hyl hyc=>
    match ys,hyl with
    | [y],_=>
    have:=hyc 0 y _ rfl rfl;cases this;rfl
 subst hv0;have cS:=AnyZI.sorted_in L Fence.wide 6 trivial trivial trivial trivial rfl (by omega) (hsort _) e9 (ρ7.f 10) #[.pointer (some ⟨b,0,none⟩)] trivial e10 _ (Maps.size D0) (by rw[hms];exact qAx hl (by decide)) (by rw[hms];omega) w hseq;refine⟨ef,((callsIn_wide (n:=6)).1 cS).mono ?_⟩;rintro e w' ⟨v,ss,rfl,hS,hrow,hnil,hbel⟩;have hss:ss.mergeSort (λx y=>decide (x<=y))=ks.mergeSort (λx y=>decide (x<=y)):=mergeSort_of_perm_i (hS.trans hperm);have hsl:ss.length=ks.length:=(hS.trans hperm).length_eq;rw[hss]at hrow;generalize hso:(ks.mergeSort λx y=>decide (x<=y))=so at hrow;have hsol:so.length=ks.length:=by rw[<-hso];simp
 have hmvI:∀b',b'< w.heap.size->w'.heap[b']? =w.heap[b']?:=hbel.block
 let Hn:=ai H d (some (.row v bb 1 (so.map enc)))
 have hblk:∀b',(Res.row v bb 1 (so.map (enc (X:=Int)))).blk=some b'->w.heap.size<=b':=λb' hb'=>by
  rcases hrow.2 with⟨rfl,_⟩|⟨g,cap,cur,rfl,hg,_⟩
  ·cases hb'
  ·cases hb';exact hg
 have hownS:∀b',bL Hn b'->bL H b'\/w.heap.size<=b':=λb' hb'=>by
  rcases PY hb' with⟨r,h1,h2⟩|⟨i,r,_,h1,h2⟩
  ·cases h1;exact .inr (hblk b' h2)
  ·exact .inl ⟨i,r,h1,h2⟩
 have move:∀y c,R tp (bh O tp H w) w y c->R tp (bh O tp Hn w') w' y c:=λy c hr=>hr.mono (λ_ h=>h) (λb' hb'=>⟨⟨qAj hb'.1 hbel.size,hb'.2.1,hb'.2.2.1,λho=>by
  rcases hownS b' ho with h|h
  ·exact hb'.2.2.2 h
  ·exact absurd hb'.1 (by omega)⟩,hmvI b' hb'.1⟩) (λb' hb'=> .same (hmvI b' (htl.1 b' hb')))
 have hget:∀i r,Hn i=some r->(i=d/\r= .row v bb 1 (so.map enc))\/(i≠d/\H i=some r):=λi r h=>by
  simp only[Hn,ai]at h;split at h
  ·rename_i e;cases h;exact .inl ⟨e,rfl⟩
  ·rename_i e;exact .inr ⟨e,h⟩
 have hone:v.oneCell'=true:=by
  rcases hrow.2 with⟨rfl,_⟩|⟨g,cap,cur,rfl,_⟩ <;>rfl
 refine⟨v, .own d v,Hn,tp,rfl,by have:=hK v;rw[hso]at this;exact this,λ_ h=>h,λ_ h=> .inl h,λb' hb'=>qAj (htl.1 b' hb') hbel.size,
  ⟨hbel.os,hbel.tape,hbel.output,hbel.size,λb' hb' _ _=>hmvI b' hb',λb' hb'=> .same (hmvI b' (htl.1 b' hb')),λq=>absurd q hdq⟩,hownS,⟨?_,?_,?_⟩, .own _ _ hone⟩
 ·intro i j r s b' h1 h2 h3 h4;rcases hget i r h1 with⟨rfl,rfl⟩|⟨n1,k1⟩
  ·rcases hget j s h2 with⟨rfl,rfl⟩|⟨n2,k2⟩
   ·rfl
   ·have:=(hsat.ok j s k2).lt h4;have:=hblk b' h3;omega
  ·rcases hget j s h2 with⟨rfl,rfl⟩|⟨n2,k2⟩
   ·have:=(hsat.ok i r k1).lt h3;have:=hblk b' h4;omega
   ·exact hsat.dis i j r s b' k1 k2 h3 h4
 ·intro i r b' h1 h2;rcases hget i r h1 with⟨rfl,rfl⟩|⟨n1,k1⟩
  ·have:=hblk b' h2;exact⟨λh=>by have:=hO b' h;omega,λh=>by have:=htl.1 b' h;omega⟩
  ·exact hsat.out i r b' k1 h2
 ·intro i r h1;rcases hget i r h1 with⟨rfl,rfl⟩|⟨n1,k1⟩
  ·refine⟨so.map encZ,⟨by simp,?_⟩,λd hd=>?_,λk y c hy hc=>?_⟩
   ·have:=hrow.2;rw[hty]at this;rcases this with⟨h,h0⟩|⟨g,cap,cur,h,_,a1,a2,a3,a4,a5⟩
    ·exact .inl ⟨h,by rw[qAs,hsol,<-hsl];exact h0⟩
    ·exact .inr ⟨g,cap,cur,by rw[h];simp;omega,qAr _,a1,by simp;omega,a3,a4,by simpa [hsol,hsl]using a5⟩
   ·obtain⟨z,_,rfl⟩:=qz1.1 hd;exact⟨Cod.kn z,Cod.wid z⟩
   ·have hfl:be (so.map (enc (X:=Int)))=(so.map encZ).map D.v:=by
     unfold be;rw[List.flatMap_map,List.map_map];generalize so=l
     induction l with
     |nil=>rfl
     |cons a l ih=>rw[qAw,qAo,ih];rfl
    rw[hfl,qz7,hy]at hc;cases hc;obtain⟨z,_,rfl⟩:=qz1.1 (qzY hy);exact⟨rfl, .v _ rfl (λs h=>by cases h)⟩
  ·exact(hsat.ok i r k1).conv move (λb' hb'=>hmvI b' ((hsat.ok i r k1).lt hb'))
end
end Go.Gv
namespace Go.Gv
open Cod (enc dec)
variable {S S0:Nat->Spc}
def qoN:Cond:=⟨1,⟨#[]⟩,⟨#[]⟩,⟨#[]⟩,⟨#[]⟩,false, []⟩
def qfK(q:Qry)(k:Int):Cond:=(((aq q.pat)[k.toNat]?).map λx=>x.cond).getD qoN
def XK(c:Corpus)(q:Qry)(i:Int)(x:Span):Bool:=decide (i+x.e∈HS c (qfK q x.b)) && decide (kB c.texts (qjx i)=kB c.texts (qjx (i+x.e)))
def yX(n:Nat):List Int:=(List.range n).map λi:Nat=>(i:Int)
def qb0(k:Nat):Y1 (k:Int) (yX k)=yX (k+1):=by
 have h:(k:Int) ∉yX k:=λh=>by
  obtain⟨i,hi,e⟩:=qz1.1 h;have:=qBd.1 hi;omega
 unfold Y1;rw[if_neg h];simp[yX,List.range_succ]
def VO{n:Nat}{i:Int} :i∈yX n↔0<=i/\i<n:=by
 unfold yX;rw[qz1];constructor
 ·rintro⟨j,hj,rfl⟩;have:=qBd.1 hj;omega
 ·rintro⟨h0,h1⟩;exact⟨i.toNat,qBd.2 (by omega),by omega⟩
def vY(n:Nat):(yX n).Pairwise (· < ·):=by
 unfold yX;rw[qCd];exact List.pairwise_lt_range.imp (λh=>by omega)
def GX{α:Type}[DecidableEq α]:∀{l:List α} {i:Nat} {z:α},l.Nodup->l[i]? =some z->l.eraseIdx i=l.filter λy=>decide (y≠z)
 | [],_,_,_,h=>by simp at h
 | a::l,0,z,hn,h=>by
   simp at h;subst h;have hn:=qA3.1 hn;simp only[List.eraseIdx_cons_zero];rw[List.filter_cons_of_neg (by simp)];exact(qBE.2 λy hy=>by simp;rintro rfl;exact hn.1 hy).symm
 | a::l,i+1,z,hn,h=>by
   have hn:=qA3.1 hn;have hz:a≠z:=λe=>hn.1 (e ▸qzY (by simpa using h))
   rw[List.eraseIdx_cons_succ,List.filter_cons_of_pos (by simpa using hz),GX hn.2 (by simpa using h)]
def qck{l:List Int}(hn:l.Nodup){i j:Nat}(hi:i<l.length)(hj:j<l.length)(h:l[i]=l[j]):i=j:=by
 rcases qCz i j with h1|h1|h1
 ·exact absurd h (qA1.1 hn i j hi hj h1)
 ·exact h1
 ·exact absurd h.symm (qA1.1 hn j i hj hi h1)
def Gp:∀{zs:List (Nat×Int)},(zs.map (·.1)).Nodup->zs.Nodup
 | [],_=>qB7
 | z::zs,h=>by
   have h:=qA3.1 h;exact qA3.2 ⟨λhz=>h.1 (qz1.2 ⟨z,hz,rfl⟩),Gp h.2⟩
def Yu(l:List Int)(i:Nat):(jj l).eraseIdx i=jj (l.eraseIdx i):=by
 unfold jj
 induction l generalizing i with
 |nil=>rfl
 | cons a l ih=>cases i with
   |zero=>rfl
   |succ i=>simp only[qAo,List.eraseIdx_cons_succ,ih]
theorem qj0{l:List Int}{st:List Nat}{k:Int}{i:Nat}{K:List D->List Nat->Prop}(hn:l.Nodup)(hk:l[i]? =some k)(h:K (jj (l.eraseIdx i)) (st.eraseIdx i)):WJ false [.int .i64] (.v (.int .i64 k)) (jj l) st K:=by
 have hK:=VZ;refine⟨UQ hK l,hK.fit k,λj k' v' hj m=>?_,λhno=>?_⟩
 ·have hj2:j<l.length:=by
   have:=(qzV.1 hj).1;simpa [jj]using this
  have e:(jj l)[j]? =some (.tup [enc l[j], .v (.bool true)]):=by simp[jj,hj2]
  rw[e]at hj;simp only[qAa,D.tup.injEq,qAA,and_true]at hj;obtain⟨rfl,rfl⟩:=hj;have hkj:k=l[j]:=by
   have:=MR (hK.pur k) (hK.pur l[j]) m;exact bK this
  obtain⟨hi,hi2⟩:=qzV.1 hk;have:i=j:=qck hn hi hj2 (hi2.trans hkj);subst this;rw[Yu];exact h
 ·exact absurd (VN.2 ⟨qzY hk,rfl⟩) (hno (hK.pur k) _)
def B8(P:Int->Bool)(zs:List (Nat×Int))(seen:List Nat):List (Nat×Int):=zs.filter λz=>decide (z.1∉seen)||P z.2
def P4{zs:List (Nat×Int)}(h:(zs.map (·.1)).Nodup){a b:Nat×Int}(ha:a∈zs)(hb:b∈zs)(e:a.1=b.1):a=b:=by
 induction zs with
 |nil=>cases ha
 | cons z zs ih=>
   have h:=qA3.1 h;rcases qAc.1 ha with ea|ha<;>rcases qAc.1 hb with eb|hb
   ·rw[ea,eb]
   ·exact absurd (qz1.2 ⟨b,hb,by rw[<-e,ea]⟩) h.1
   ·exact absurd (qz1.2 ⟨a,ha,by rw[e,eb]⟩) h.1
   ·exact ih h.2 ha hb
def qc1{P:Int->Bool}{zs:List (Nat×Int)}{seen:List Nat}{s:Nat}{k:Int}(hn:(zs.map (·.1)).Nodup)(hm:(s,k) ∈zs)(hk:P k=true):B8 P zs (seen++ [s])=B8 P zs seen:=by
 refine List.filter_congr λz hz=>?_
 by_cases e:z.1=s
 ·have:=P4 hn hz hm e;subst this;simp[hk]
 ·simp[e]
def qgU{P:Int->Bool}{zs:List (Nat×Int)}{seen:List Nat}{s i:Nat}{k:Int}(hn:(zs.map (·.1)).Nodup)(hs:s∉seen)(hk:P k=false)(hi:(B8 P zs seen)[i]? =some (s,k)):B8 P zs (seen++ [s])=(B8 P zs seen).eraseIdx i:=by
 have hzn:zs.Nodup:=Gp hn;have hm:(s,k) ∈zs:=(qAV.1 (qzY hi)).1;have h2:=GX (hzn.filter _) hi;rw[show(B8 P zs seen).eraseIdx i=_ from h2];unfold B8;rw[List.filter_filter];refine List.filter_congr λz hz=>?_
 by_cases e:z.1=s
 ·have:=P4 hn hz hm e;subst this;simp[hk]
 ·have:z≠ (s,k):=λh=>e (by rw[h])
  simp[e,this]
def qgT{P:Int->Bool}{zs:List (Nat×Int)}{seen:List Nat}(h:∀s∈ (B8 P zs seen).map (·.1),s∈seen):B8 P zs seen=zs.filter λz=>P z.2:=by
 refine List.filter_congr λz hz=>?_
 by_cases e:z.1∈seen
 ·simp[e]
 ·exact absurd (h z.1 (qz1.2 ⟨z,qAV.2 ⟨hz,by simp[e]⟩,rfl⟩)) e
def qjj{zs:List (Nat×Int)}{seen:List Nat}{s:Nat}{k:Int}(hm:(s,k) ∈zs)(hs:s∉seen):(zs.filter λz=>!decide (z.1∈seen++ [s])).length<(zs.filter λz=>!decide (z.1∈seen)).length:=by
 have e:(zs.filter λz=>!decide (z.1∈seen++ [s]))=(zs.filter λz=>!decide (z.1∈seen)).filter λz=>decide (z.1≠s):=by
  rw[List.filter_filter];refine List.filter_congr λz _=>?_
  by_cases h:z.1∈seen<;>by_cases h2:z.1=s<;>simp[h,h2]
 rw[e];have hm2:(s,k) ∈zs.filter λz=>!decide (z.1∈seen):=qAV.2 ⟨hm,by simp[hs]⟩
 exact List.length_filter_lt_length_iff_exists.2 ⟨_,hm2,by simp⟩
def ED{α β:Type}(f:α->β):∀(l:List α) (i:Nat),(l.eraseIdx i).map f=(l.map f).eraseIdx i
 | [],_=>rfl
 |a::l,0=>rfl
 |a::l,i+1=>by simp only[List.eraseIdx_cons_succ,qAo,ED f l i]
def qh0{st:List Nat}{ks:List Int}(h:st.length=ks.length):(st.zip ks).map (·.2)=ks:=by
 rw[show(λx:Nat×Int=>x.2)=Prod.snd from rfl,List.map_snd_zip (by omega)]
def qh1{st:List Nat}{ks:List Int}(h:st.length=ks.length):(st.zip ks).map (·.1)=st:=by
 rw[show(λx:Nat×Int=>x.1)=Prod.fst from rfl,List.map_fst_zip (by omega)]
def I4(c:Corpus)(q:Qry)(s:List Span):List Int:=(yX c.toks.length).filter λi=>s.all (XK c q i)
structure wo (V:List Attr->Qry->Prop) (c:Corpus) (q:Qry):Prop where
 v:V c.attrs q
 pat:fJ aJ q.pat=true
 size:fj q.pat<=256
 fx:pS q.pat
 pl:qdn q.pat []
 few:c.toks.length<=100000
 sel:∀x∈aq q.pat,Hh (c,x.cond)
def QC(V:List Attr->Qry->Prop)(z:Corpus×Qry×List Span):Prop:=wo V z.1 z.2.1/\z.2.2.length<=100000
def qbk(z:Corpus×Qry×List Span)(y:List Int×Int):Prop:=∃F,SrcsOf z.2.1.pat F/\(y=(I4 z.1 z.2.1 z.2.2,0)/\ZI F z.2.2\/y=([],18)/\ ¬ZI F z.2.2)
abbrev Rz(V:List Attr->Qry->Prop):Spc:=aL (a3 Corpus Qry (List Span)) (QC V) (mj (Y:=List Int) (Z:=Int)) qbk
def Yw(c:Corpus)(x:Cond):(HS c x).Pairwise (· < ·):=by
 unfold HS Rt;rw[qCd];exact(List.pairwise_lt_range.filter _).imp (λh=>by omega)
def qfR{c:Corpus}{q:Qry}{s:List Span}{k:Nat}{x:Span}(hx:s[k]? =some x){ks:List Int}(h:ks=(yX c.toks.length).filter λi=>(s.take k).all (XK c q i)):ks.filter (λi=>XK c q i x)=(yX c.toks.length).filter λi=>(s.take (k+1)).all (XK c q i):=by
 rw[h,List.filter_filter,au hx];refine List.filter_congr λi _=>?_
 simp[List.all_append,Bool.and_comm]
theorem Oz{V:List Attr->Qry->Prop}(h1:S fm=FT V)(h2:S sD=Am)(h3:S pi=ud)(h4:S iV=qeE)
 (h5:S fM=qeL) (h6:S sI=Ao) (h7:S qC=qaJ iU) (h8:S td=Rq iU):
 am vv uv S (a3 Corpus Qry (List Span)) (QC V) (mj (Y:=List Int) (Z:=Int)) qbk:=by
 rintro⟨c,q,s⟩ ⟨hB,hs⟩;have hB:wo V c q:=hB;have hs:s.length<=100000:=hs;have hV:V c.attrs q:=hB.v;have hfx:pS q.pat:=hB.fx;have hfew:=hB.few;have htl:(c.toks.length:Int)<=9223372036854775807:=by omega
 have hsl:(s.length:Int)<=9223372036854775807:=by omega
 simp[vv,uv,h1,h2,hV,hfx,hs,htl,-fB',-eB'];rintro y ⟨F,hF,hy⟩;have hF:SrcsOf q.pat F:=by
  have hF:gw q.pat F:=hF;unfold gw at hF;rwa [if_pos ⟨hB.pat,hB.size⟩]at hF
 refine⟨λhne=>?_,λhe v=>?_⟩
 ·rcases hy with⟨rfl,_⟩|⟨rfl,hno⟩
  ·exact absurd rfl hne
  ·exact⟨F,hF, .inr ⟨rfl,hno⟩⟩
 have hok:ZI F s:=by
  rcases hy with⟨_,h⟩|⟨rfl,_⟩
  ·exact h
  ·cases he
 clear hy he;refine ah (X:=List Int) [2,3,4,10] [] c.toks.length (λk ks=>ks=yX k) (λ_=>[]) (λks=>[(33, .mrow v (jj ks))]) [] (by simp[yX]) ?_ ?_ (hh:=by simp;exact .inl rfl)
 ·rintro k ks hk rfl;simp[-fB',-eB'];exact qiv (X:=Int) VZ rfl (.inl (by rw[qb0]))
 rintro ks rfl;simp[h3,hsl,hB.pat,hB.pl,-fB',-eB'];refine ah (X:=List Int) [3,10,12,46] [] s.length (λk ks=>ks=(yX c.toks.length).filter λi=>(s.take k).all (XK c q i)) (λ_=>[]) (λks=>[(33, .mrow v (jj ks))]) (yX c.toks.length) (by simp;exact(qBE.2 λ_ _=>rfl).symm) ?_ ?_
 ·rintro k ks hk hks;obtain⟨x,hx⟩:=ed hk;obtain⟨_,hgx⟩:=qzV.1 hx;have hxF:SrcE q.pat 0 0 x:=(hF.2 x).1 (hok k x hx).1;obtain⟨r1,r2,r3,r4⟩:=ZS q.pat hB.pat 0 0 x hxF;have r5:da q.pat<=1000000:=hfx.1;obtain⟨a,ha⟩:=ed (show x.b.toNat<(aq q.pat).length by omega);have hq:(bz q.pat)[x.b.toNat]? =some (mq a):=by unfold bz;rw[qz7,ha];rfl
  obtain⟨hql,hqg⟩:=qzV.1 hq;have hsel:Hh (c,(mq a).cond):=hB.sel a (qzY ha);have hlc:qfK q x.b=(mq a).cond:=by unfold qfK;rw[ha];rfl
  have hb2:x.b<(bz q.pat).length:=by omega
  have hb1:0<=x.b:=by omega
  generalize hcl:mq a=a' at hq hqg hsel hlc;simp[hk,hx,hgx,hq,hqg,hb1,hb2,h4,hsel,-fB',-eB'];intro b b1 st clock hborn;obtain⟨hb1',hbn,hbc⟩:=hborn;have hbl:st.length=ks.length:=by rw[hb1'];simp[jj]
  have hz1:=qh1 hbl;have hz2:=qh0 hbl;generalize hzs:st.zip ks=zs at hz1 hz2;have hzn:(zs.map (·.1)).Nodup:=by rw[hz1];exact hbn
  have hkn:(zs.map (·.2)).Nodup:=by
   rw[hz2,hks];exact((vY _).imp (λh=>by omega)).filter _
  have hc0:B8 (λi=>XK c q i x) zs []=zs:=qBE.2 λz _=>by simp
  refine ay (X:=List Nat) [3,10,12,14,15,46,47,48,67] [14] (λ_=>True) (λ_=>[]) (λseen=>[(33, .raw (.mrs v (jj ((B8 (λi=>XK c q i x) zs seen).map (·.2))) ((B8 (λi=>XK c q i x) zs seen).map (·.1)) clock)),(67, .raw (.mit b1 33 v clock seen))]) (λseen=>(zs.filter λz=>decide (z.1∉seen)).length) [] trivial ?_ (hh:=by simp[hc0,hz1,hz2]);rintro seen -;simp[-fB',-eB'];have hsrt:(HS c a'.cond).Pairwise (· < ·)/\(HS c a'.cond).length<=1000000:=⟨Yw c a'.cond,qAx (US _ _ _) (by omega)⟩
  refine⟨λhall=> .inl ?_,λs1 k1 hm1 hns=>⟨⟨k1,hm1⟩,λi e k2 hi he=>?_⟩⟩
  ·congr 1;rw[qgT (λs hs=>by obtain⟨z,hz,rfl⟩:=qz1.1 hs;exact hall z.1 z.2 hz)];rw[<-qfR hx hks,<-hz2,List.filter_map];rfl
  have hmz:(s1,k2) ∈zs:=(qAV.1 (qzY hi)).1;have hmk:k2∈yX c.toks.length:=by
   have:k2∈ks:=by rw[<-hz2];exact qz1.2 ⟨_,hmz,rfl⟩
   rw[hks]at this;exact(qAV.1 this).1
  obtain⟨k0,k9⟩:=VO.1 hmk;have he2:e= .tup [enc k2, .v (.bool true)]:=by
   have:(jj ((B8 (λi=>XK c q i x) zs seen).map (·.2)))[i]? =some (.tup [enc k2, .v (.bool true)]):=by simp[jj,hi]
   rw[this]at he;exact(qAg he).symm
  subst he2;have hmeas:(zs.filter λz=>!decide (z.1∈seen++ [s1])).length<(zs.filter λz=>!decide (z.1∈seen)).length:=qjj hmz hns;have hpl:XK c q k2 x=(decide (k2+x.e∈HS c a'.cond) && decide (kB c.texts (qjx k2)=kB c.texts (qjx (k2+x.e)))):=by unfold XK;rw[hlc]
  have hdel:XK c q k2 x=false->∀K:List D->List Nat->Prop,K (jj ((B8 (λi=>XK c q i x) zs (seen++ [s1])).map (·.2))) ((B8 (λi=>XK c q i x) zs (seen++ [s1])).map (·.1))->
   WJ false [KK.int IntKind.i64] (D.v (Value.int IntKind.i64 k2)) (jj ((B8 (λi=>XK c q i x) zs seen).map (·.2))) ((B8 (λi=>XK c q i x) zs seen).map (·.1)) K:=λhp K hK=>by
   refine qj0 (i:=i) ?_ (by rw[qz7,hi];rfl) ?_
   ·exact hkn.sublist (List.Sublist.map _ qCo)
   ·rw[qgU hzn hns hp hi]at hK;rw[ED,ED]at hK;exact hK
  simp[h5,h6,hsrt,-fB',-eB'];refine⟨⟨by omega,by omega⟩,λhin=>⟨⟨by omega,by omega⟩,λhne=>?_,λheq=>?_⟩,λhin=>?_⟩
  ·exact hdel (by rw[hpl];simp[hne]) _ ⟨seen++ [s1],⟨.inl ⟨rfl,rfl⟩, .inl rfl⟩,hmeas⟩
  ·refine⟨seen++ [s1],⟨.inl ?_, .inl rfl⟩,hmeas⟩;rw[qc1 hzn hmz (by rw[hpl];simp[hin,heq])];exact⟨rfl,rfl⟩
  ·exact hdel (by rw[hpl];simp[hin]) _ ⟨seen++ [s1],⟨.inl ⟨rfl,rfl⟩, .inl rfl⟩,hmeas⟩
 rintro ks hks;rw[qAb]at hks;have hkb:ks=I4 c q s:=hks;simp[h7,-fB',-eB'];intro b;rw[h8];have hkn:ks.Nodup:=by
  rw[hks];exact((vY _).imp (λh=>by omega)).filter _
 have hkr:∀k∈ks,0<=k/\k<c.toks.length:=λk hk=>by
  rw[hks]at hk;exact VO.1 (qAV.1 hk).1
 have hkl:ks.length<=c.toks.length:=by
  rw[hks];exact qAx (List.length_filter_le _ _) (by simp[yX])
 have hms:ks.mergeSort (λx y=>decide (x<=y))=ks:=by
  refine List.mergeSort_of_pairwise ?_;rw[hks];exact((vY _).filter _).imp λh=>by simp;omega
 refine⟨99,b,33,v,ks,rfl,by simp[ai],by simp[ai],hkn,by omega,λk hk=>⟨(hkr k hk).1,by have:=(hkr k hk).2;omega⟩,λv'=>?_⟩;rw[hms];refine⟨ks,fG bb (by simp[ai]),F,hF, .inl ⟨by rw[hkb],hok⟩⟩
end Go.Gv
namespace Go.Gv
open Go.Proofs
def sR:CC:=gq Tryz.f30 [1] { bx:=[7] } _
def sk:List ak:=[.tmp 2]
def Km:FO pi [1] sR sk 8:=fo
open Cod (enc dec)
variable {S S0:Nat->Spc}
def JV(h1:S jw=cX)(h2:S dy=s_leavesQ):am sR sk S (a1 Pat) (λx=>qdn x []) (enc (X:=List Pat)) λx y=>y=if fJ aJ x then bz x else[]:=by
 rintro p hp;have hp:qdn p []:=hp;simp[sR,sk,h1,h2,hp,-fB',-eB'];clear h1 h2;exact⟨λh=>ba [] (by simp) (by rw[h];rfl),λh=> .inl λv=>ba (bz p) (fG aK (by simp)) (by rw[h];rfl)⟩
abbrev U2:Spc:=aL (a2 Corpus Cond) Hh (mj (Y:=Int) (Z:=Int)) λz y=>y=(((HS z.1 z.2).length:Int),0)
def HG(h1:S iV=qeE):am pN ou S (a2 Corpus Cond) Hh (mj (Y:=Int) (Z:=Int)) λz y=>y=(((HS z.1 z.2).length:Int),0):=by
 rintro⟨c,x⟩ hP;simp[pN,ou,h1,hP,-fB',-eB']
def nN(c:Corpus)(q:Qry):List Int:=(aq q.pat).map λx=>((HS c x.cond).length:Int)
abbrev PJ(V:List Attr->Qry->Prop):Spc:=aL (a2 Corpus Qry) (λz=>wo V z.1 z.2) (mj (Y:=List Int) (Z:=Int)) λz y=>y=(nN z.1 z.2,0)
theorem Ff{V:List Attr->Qry->Prop}(h1:S fm=FT V)(h2:S pi=ud)(h3:S qE=U2):am nB ng S (a2 Corpus Qry) (λz=>wo V z.1 z.2) (mj (Y:=List Int) (Z:=Int)) λz y=>y=(nN z.1 z.2,0):=by
 rintro⟨c,q⟩ hB;have hB:wo V c q:=hB;have hV:V c.attrs q:=hB.v;have hlen:(bz q.pat).length=(aq q.pat).length:=by unfold bz;simp
 have hll:(aq q.pat).length<=100000000:=by have:=hB.pl.1;simpa using this
 simp[nB,ng,h1,h2,hV,hB.pat,hB.pl,-fB',-eB'];intro hl9;refine ah (X:=Value×List Int) [2,21] [] (bz q.pat).length (λk z=>z.2=(nN c q).take k) (λz=>[(7, .own 40 z.1)]) (λz=>[(40, .row z.1 bb 1 (z.2.map enc))]) (.slice none 0 0, []) (by simp) ?_ ?_ (hh:=by simp[isNilRow])
 ·rintro k ⟨v,z⟩ hk hz;have hz:z=(nN c q).take k:=hz;obtain⟨a,ha⟩:=ed (show k<(aq q.pat).length by omega);have hq:(bz q.pat)[k]? =some (mq a):=by unfold bz;rw[qz7,ha];rfl
  obtain⟨hql,hqg⟩:=qzV.1 hq;have hsel:Hh (c,(mq a).cond):=hB.sel a (qzY ha);have hcn:(nN c q)[k]? =some (((HS c (mq a).cond).length:Int)):=by unfold nN;rw[qz7,ha];rfl
  have hzl:z.length=k:=by rw[hz,qAq];unfold nN;rw[qAs];omega
  generalize hcl:mq a=a' at hq hqg hsel hcn;simp[hk,hq,hqg,h3,hsel,-fB',-eB'];refine⟨by omega,by omega,λv'=> .inl ?_⟩;rw[hz,<-List.map_take,au hcn];simp
 ·rintro⟨v,z⟩ hz;have hz:z=(nN c q).take (bz q.pat).length:=hz;have:z=nN c q:=by rw[hz,qAT];unfold nN;rw[qAs];omega
  subst this;simp[-fB',-eB'];exact fG bb (by simp[ai])
def wm(n:List Int):List Span->List Span->List Span
 |out, []=>out
 | out,s::l=>wm n (match out with
   | []=>[s]
   |o::_=>if(n[s.b.toNat]?).getD 0<(n[o.b.toNat]?).getD 0 then[s]else out) l
def NQ(n:List Int):∀(l out:List Span) (s:Span),wm n out (l++ [s])=wm n (wm n out l) [s]
 | [],out,s=>rfl
 | a::l,out,s=>by
   show wm n _ (l++ [s])=wm n (wm n _ l) [s];exact NQ n l _ s
def ZC(z:Corpus×Qry)(y:List Span×Int):Prop:=∃F,SrcsOf z.2.pat F/\y=(wm (nN z.1 z.2) [] F,0)
abbrev Z0(V:List Attr->Qry->Prop):Spc:=aL (a2 Corpus Qry) (λz=>wo V z.1 z.2) (mj (Y:=List Span) (Z:=Int)) ZC
theorem TW{V:List Attr->Qry->Prop}(h1:S pm=PJ V)(h2:S lN=qd):am Ac yT S (a2 Corpus Qry) (λz=>wo V z.1 z.2) (mj (Y:=List Span) (Z:=Int)) ZC:=by
 rintro⟨c,q⟩ hB;have hB:wo V c q:=hB;have hfx:pS q.pat:=hB.fx;have hV:=hB;simp[Ac,yT,h1,h2,hB,hfx,-fB',-eB'];intro F hF hl9;have hF:SrcsOf q.pat F:=by
  have hF:gw q.pat F:=hF;unfold gw at hF;rwa [if_pos ⟨hB.pat,hB.size⟩]at hF
 have hcl:(nN c q).length=(aq q.pat).length:=by unfold nN;simp
 have hin:∀s∈F,0<=s.b/\s.b<(nN c q).length:=λs hs=>by
  obtain⟨r1,r2,r3,r4⟩:=ZS q.pat hB.pat 0 0 s ((hF.2 s).1 hs);omega
 refine ah (X:=List Span) [6,22] [] F.length (λk z=>z=wm (nN c q) [] (F.take k)/\z.length<=1/\∀s∈z,s∈F) (λz=>[(8, .list 2 (z.map enc))]) (λ_=>[]) [] ⟨rfl,by simp,by simp⟩ ?_ ?_
 ·rintro k z hk ⟨hz,hz1,hzF⟩;obtain⟨x,hx⟩:=ed hk;obtain⟨_,hgx⟩:=qzV.1 hx;obtain⟨x1,x2⟩:=hin x (qzY hx);obtain⟨nx,hnx⟩:=ed (show x.b.toNat<(nN c q).length by omega);obtain⟨_,hgn⟩:=qzV.1 hnx;have hstep:wm (nN c q) [] (F.take (k+1))=wm (nN c q) z [x]:=by rw[au hx,NQ,<-hz]
  clear hz;cases z with
  | nil=>
    simp[hk,hx,hgx,hstep,wm,-fB',-eB'];exact⟨[x],⟨rfl,by simp,λs hs=>by simp at hs;subst hs;exact qzY hx⟩,by simp⟩
  | cons o zs=>
    have:zs=[]:=by simpa using hz1
    subst this;obtain⟨o1,o2⟩:=hin o (hzF o (by simp));obtain⟨no,hno⟩:=ed (show o.b.toNat<(nN c q).length by omega);obtain⟨_,hgo⟩:=qzV.1 hno;simp[hk,hx,hgx,hnx,hgn,hno,hgo,x1,x2,o1,o2,hstep,wm,-fB',-eB'];have mx:∀s∈ [x],s∈F:=λs hs=>by simp at hs;subst hs;exact qzY hx
    exact⟨λh=>⟨[x],⟨by rw[if_pos h],by simp,mx⟩,by simp⟩,λh=>⟨[o],⟨by rw[if_neg (by omega)],by simp,hzF⟩,by simp⟩⟩
 ·rintro z ⟨hz,_,_⟩;rw[qAb]at hz;simp[-fB',-eB'];exact⟨z, .same _,F,hF,by rw[hz]⟩
def XB(p:Pat)(y:List Span):Prop:=gw p y/\y.length<=jL p
abbrev FQ:Spc:=aL (a1 Pat) pS (enc (X:=List Span)) XB
def QM(h1:S dE=cX)(h2:S zD=D7)(h3:S iy=FP):am zP yG S (a1 Pat) pS (enc (X:=List Span)) XB:=by
 rintro p ⟨hp1,hp2⟩;simp[zP,yG,h1,h2,h3,-fB'];clear h1 h2 h3;refine⟨λh=>?_,λh=>ba [] (by simp) ⟨by unfold gw;rw[if_neg (by rw[h];simp)],qAr _⟩⟩;rw[if_pos h];refine⟨λh2=>ba [] (by simp) ⟨by unfold gw;rw[if_neg (by omega)],qAr _⟩,λh2=>⟨⟨db p,⟨qz2 _,h⟩,qBf _,by show(0:Int) +200000* (da p:Int)<=_;omega,qBf _,by show(0:Int) + (da p:Int)<=_;omega,SS.nil,by show([]:List Span).length+_<=_;simpa using hp2⟩,?_⟩⟩;rintro y ⟨c1,c2,c3⟩;refine ba y (by simp) ⟨?_,by simpa using c3⟩;unfold gw;rw[if_pos ⟨h,h2⟩];exact⟨c1,λs=>by rw[c2 s];simp⟩
end Go.Gv
namespace Go.Gv
open Cod (enc dec)
open Go.Proofs Go.Sort Go.Shelf Go.Lib Go.RowKit
variable {dq:Prop}
section
variable {P:Program}{ρ:Ren}{X:Type}[Cod X][Inhabited X]
def qrf(g:Nat)(x:D×Unit)(l:List X):Prop:=x.1= .clo g []/\l.length<=100000
def qhx(cf:X->X->Int)(_:D×Unit)(l r:List X):Prop:=r=l.mergeSort λx y=>!(ltOf cf) y x
theorem qg3(hTb:ub=[]){g:Nat}{cf:X->X->Int}(ev:X->List Value)(hev:∀x,enc x=D.agg ((ev x).map D.v))(hone:∀x,∀v∈ev x,v.oneCell'=true/\∀s,v= .string s->s.size<=maxLen)
 (hg:Tri True P g (aL (a2 X X) (λ_=>True) (enc (X:=Int)) λx y=>y=cf x.1 x.2).pt) (blk size k:Nat) (w:World):CmpLays P g #[] ev k cf blk 0 size w:=by
 intro m os dk _ x y;generalize sortWorldK ev k w blk 0 m dk os=W;have hR:∀z,R (λ_=>False) (bh (λb=>b<W.heap.size) (λ_=>False) cY W) W (.agg (ev z).toArray) (enc z):=λz=>by
  rw[hev z];refine .agg (ev z) _ (by simp) (λv hv=>(hone z v hv).1) λj v c h1 h2=>?_
  rw[qz7]at h2;rw[h1]at h2;cases h2;exact .v v (hone z v (qzY h1)).1 (hone z v (qzY h1)).2
 obtain⟨_,hc⟩:=hg (λb=>b<W.heap.size) (λ_=>False) W [.agg (ev x).toArray, .agg (ev y).toArray] [enc x,enc y] cY 0 (λr H'=>r=enc (cf x y)/\H'=cY) (λb h=>h) ⟨λb h=>h.elim,λp hp=>by rw[hTb]at hp;cases hp⟩
  ⟨λi j r s b h=>by simp[cY]at h,λi r b h=>by simp[cY]at h,λi r h=>by simp[cY]at h⟩ rfl
  (λj v c h1 h2=>by
    rcases j with _|_|j
    ·simp at h1 h2;subst h1;subst h2;exact hR x
    ·simp at h1 h2;subst h1;subst h2;exact hR y
    ·simp at h1)
  (by rw[nQ];simp)
 refine hc.mono ?_;rintro e w' ⟨v,r,H',tp',rfl,⟨rfl,rfl⟩,_,_,_,hs,_,_,hv⟩;have hv':v= .int .i64 (cf x y):=by
  have:R tp' (bh (λb=>b<W.heap.size) tp' cY w') w' v (.v (.int .i64 (cf x y))):=hv;exact this.inv_v
 subst hv';refine⟨rfl,w'.drawn -W.drawn,w'.heap.extract W.heap.size w'.heap.size,?_⟩;have hheap:w'.heap=W.heap++w'.heap.extract W.heap.size w'.heap.size:=by
  apply Array.ext_getElem?;intro b;by_cases hb:b<W.heap.size
  ·rw[qAM hb];exact hs.same b hb (λ⟨i,r,h,_⟩=>by simp[cY]at h) (λh=>h)
  ·rw[Array.getElem?_append_right (by omega),qCj];have hsz:W.heap.size<=w'.heap.size:=hs.size;by_cases hb2:b<w'.heap.size
   ·rw[if_pos (by omega)];congr 1;omega
   ·rw[if_neg (by omega),qBn (by omega)]
 have h1:=hs.os;have h2:=hs.tape;have h3:=hs.output;have h4:=hs.drawn trivial;have h5:W.drawn+ (w'.drawn -W.drawn)=w'.drawn:=by omega
 cases w';cases W;simp only[grow,World.drewN]at*;subst h1;subst h2;subst h3;rw[h5,<-hheap]
theorem Rg(hTb:ub=[]){fsort g:Nat}{cf:X->X->Int}(L:SlLaysF0.n6 P ρ)(hf:ρ.f 6=fsort)(ev:X->List Value)(k el:Nat)(hk:∀x,(ev x).length=k)(hev:∀x,enc x=D.agg ((ev x).map D.v))
 (hone:∀x,∀v∈ev x,v.oneCell'=true/\∀s,v= .string s->s.size<=maxLen) (aE:∀w,(isAgg (ρ.t 24)).run P w= .ok true w) (zE:∀w,(Go.sizeOf (ρ.t 24)).run P w= .ok k w)
 (hO:SWO (ltOf cf)) (hT:∀x y,(ltOf cf) x y=false->(ltOf cf) y x=false->x=y) (hg:Tri True P g (aL (a2 X X) (λ_=>True) (enc (X:=Int)) λx y=>y=cf x.1 x.2).pt) (eg:ee P g) (ef:ee P fsort):
 Tri dq P fsort (qoh (aD a0) (qrf g) (qhx cf) el k).pt:=by
 subst hf;intro O tp w vs ds H d K hO' htl hsat hlen hargs hA;obtain⟨id,v,l,ds',x,rfl,hd,hid,⟨hx1,hl5⟩,hK⟩:=hA;have hds:ds'=[.clo g []]:=by
  match ds',hd with
  | [],h=>cases h
  | a::r,h=>
    rw[qnE]at h
    match r,h with
    | [],h=>
      simp at h;subst h;simp only at hx1;rw[hx1]
    |b::r,h=>cases h
 subst hds
 match vs,hlen,hargs with
 | [v0,fv],_,hargs=>
 have e0:v0=v:=by
  have:=hargs 0 v0 _ rfl rfl;cases this;rfl
 have e1:fv= .func (.func g) #[] #[]:=by
  have:=hargs 1 fv _ rfl rfl;cases this with
  | clo _ xs _ hl _=>
    have:xs=[]:=by simpa using hl
    subst this;rfl
 subst e0;subst e1;refine⟨ef,?_⟩;obtain⟨xs,⟨hxl,hx⟩,hkn,hcells⟩:=hsat.ok id _ hid;rcases hx with⟨rfl,h0⟩|⟨gb,cap,cur,rfl,_,hgb,hcap,hcapm,hsz,htake⟩
 ·have hl0:l=[]:=by simpa using h0
  subst hl0;refine(AnyF.slices_SortFunc_none L none 0 _ w).mono ?_;rintro e w' ⟨rfl,rfl⟩;have hH:ai H id (some (.row (.slice none 0 0) el k (([]:List X).map enc)))=H:=by
   funext i;simp only[ai];by_cases hi:i=id
   ·subst hi;simp[hid]
   ·simp[hi]
  refine⟨_,_,_,tp,rfl,hK [] (by simp[qhx]),λb h=>h,λb h=> .inl h,htl.1, .refl _ _ _,λb h=> .inl (by rwa [hH]at h),by rw[hH];exact hsat, .tup [] [] rfl (λk x c h=>by simp at h)⟩
 ·have hll:(l.map (enc (X:=X))).length=l.length:=by simp
  rw[hll]at hcap hxl htake ⊢;have hval:∀(j:Nat) (y v':Value),xs[j]? =some y->(be (l.map enc))[j]? =some (.v v')->y=v':=λj y v' h1 h2=>((hcells j y _ h1 h2).2).inv_v
  have hfl:be (l.map enc)=(l.flatMap ev).map D.v:=by
   unfold be;rw[List.flatMap_map,List.map_flatMap];congr 1;funext z;rw[hev z];rfl
  have hfml:=SI (f:=ev) (n:=k) (l:=l) (λx _=>hk x);have hxs:xs=l.flatMap ev:=by
   apply qAO;intro j;by_cases hj:j<l.length*k
   ·have e1:xs[j]? =some xs[j]:=qzX (by omega);have e2:(l.flatMap ev)[j]? =some (l.flatMap ev)[j]:=qzX (by omega);rw[e1,e2];congr 1;refine hval j _ _ e1 ?_;rw[hfl,qz7,e2];rfl
   ·rw[qAt (by omega),qAt (by omega)]
  have hcur:∀j,j<l.length*k->cur[j]? =(l.flatMap ev)[j]?:=λj hj=>by
   rw[<-hxs,<-htake,qAf,if_pos hj,qAn]
  have hgs:gb<w.heap.size:=(qz3.1 hgb).1;have hH:HoldsK ev k w gb 0 l.toArray:=by
   intro j hj;have hj':j<l.length*k:=by simpa using hj
   refine⟨?_,GE hgb⟩;rw[ND hgb,qAG,hcur j hj',<-Na ev k hk l,qAn,qAS hj,getElem!_pos _ j hj];rfl
  have hcall:=AnyQ.slices_SortFunc_total L k aE zE ev hk (λx v hv=>(hone x v hv).1) cf hO g #[] gb 0 cap l.toArray w eg (qg3 hTb ev hev hone hg gb _ k w) hH hgs (by simp;omega) hT;simp only[qBv]at hcall;refine hcall.mono ?_;rintro e w' ⟨rfl,n,os,hw'⟩;generalize hl':(l.mergeSort λx y=>!(ltOf cf) y x)=l' at hw';have hlen':l'.length=l.length:=by rw[<-hl'];simp
  have hwo:∀b,b<w.heap.size->b≠gb->w'.heap[b]? =w.heap[b]?:=λb hb hne=>by
   rw[hw'];exact PS (w:=Sort.ahead w n) hb hne
  have hthis:w'.heap[gb]? =some (.cells (putCells _root_.id 0 (flatK ev k l'.toArray) cur) el (0,0)):=by
   rw[hw'];exact Vq (w:=Sort.ahead w n) hgb
  have hws:w.heap.size<=w'.heap.size:=by
   rw[hw'];simp[sortWorldK,grow,putRowK,putRow,mapBlock,Sort.ahead]
  have hos:w'.os=w.os/\w'.tape=w.tape/\w'.output=w.output/\w.drawn<=w'.drawn:=by
   rw[hw'];exact⟨rfl,rfl,rfl,Nat.le_add_right _ _⟩
  clear hw' hcall;have hbo:(Res.row (.slice (some ⟨gb,0,none⟩) l.length cap) el k (l.map enc)).blk=some gb:=rfl;have hid':H id=some (.row (.slice (some ⟨gb,0,none⟩) l.length cap) el k (l.map enc)):=by rw[hid,hll]
  have hown:bL H gb:=⟨id,_,hid',hbo⟩
  have htp:∀b,tp b->b≠gb:=λb hb e=>(hsat.out id _ gb hid' hbo).2 (e ▸hb)
  have htapes:∀b,tp b->TapeStep w w' b:=λb hb=> .same (hwo b (htl.1 b hb) (htp b hb))
  have hK':=hK l' (by simp only[qhx];rw[hl']);rw[hll]at hK';generalize hH2:ai H id (some (.row (.slice (some ⟨gb,0,none⟩) l.length cap) el k (l'.map enc)))=H2 at hK';have hown2:∀b,bL H2 b->bL H b:=λb ⟨i,r,h1,h2⟩=>by
   rw[<-hH2]at h1;simp only[ai]at h1;split at h1
   ·cases h1;cases h2;exact hown
   ·exact⟨i,r,h1,h2⟩
  have hmove:∀y c,R tp (bh O tp H w) w y c->R tp (bh O tp H2 w') w' y c:=λy c hr=>hr.mono (λ_ h=>h) (λb hb=>⟨⟨qAj hb.1 hws,hb.2.1,hb.2.2.1,λh=>hb.2.2.2 (hown2 b h)⟩,hwo b hb.1 (λe=>hb.2.2.2 (e ▸hown))⟩) htapes
  have hget:∀i r,H2 i=some r->(i=id/\r= .row (.slice (some ⟨gb,0,none⟩) l.length cap) el k (l'.map enc))\/(i≠id/\H i=some r):=λi r h=>by
   rw[<-hH2]at h;simp only[ai]at h;split at h
   ·rename_i e;cases h;exact .inl ⟨e,rfl⟩
   ·rename_i e;exact .inr ⟨e,h⟩
  refine⟨_,_,H2,tp,rfl,hK',λb h=>h,λb h=> .inl h,λb hb=>qAj (htl.1 b hb) hws,⟨hos.1,hos.2.1,hos.2.2.1,hws,λb hb ho ht=>hwo b hb (λe=>ho (e ▸hown)),htapes,λ_=>hos.2.2.2⟩,λb h=> .inl (hown2 b h),⟨?_,?_,?_⟩, .tup [] [] rfl (λk x c h=>by simp at h)⟩
  ·intro i j r s b h1 h2 h3 h4;rcases hget i r h1 with⟨rfl,rfl⟩|⟨n1,k1⟩
   ·rcases hget j s h2 with⟨rfl,rfl⟩|⟨n2,k2⟩
    ·rfl
    ·exact hsat.dis _ j _ s b hid' k2 h3 h4
   ·rcases hget j s h2 with⟨rfl,rfl⟩|⟨n2,k2⟩
    ·exact hsat.dis i _ r _ b k1 hid' h3 h4
    ·exact hsat.dis i j r s b k1 k2 h3 h4
  ·intro i r b h1 h2;rcases hget i r h1 with⟨rfl,rfl⟩|⟨n1,k1⟩
   ·exact hsat.out _ _ b hid' h2
   ·exact hsat.out i r b k1 h2
  ·intro i r h1;rcases hget i r h1 with⟨rfl,rfl⟩|⟨n1,k1⟩
   ·have hfml':=SI (f:=ev) (n:=k) (l:=l') (λx _=>hk x);have hps:(putCells _root_.id 0 (flatK ev k l'.toArray) cur).size=cur.size:=by simp[putCells]
    refine⟨l'.flatMap ev,⟨by simp;rw[<-List.length_flatMap];exact hfml', .inr ⟨gb,cap,_,by simp[hlen'],qAr _,hthis,by simp;omega,hcapm,by rw[hps,hsz],?_⟩⟩,λd hd=>?_,λj y c h1 h2=>?_⟩
    ·simp only[qAs,hlen'];apply qAO;intro j;rw[qAf];by_cases hj:j<l.length*k
     ·have hjc:j<cur.size:=by
       have:l.length*k<=cap*k:=qAy k hcap;omega
      have hjf:j<(flatK ev k l'.toArray).size:=by simp[hlen'];exact hj
      rw[if_pos hj,qAn,<-Na ev k hk l',qAn];simp only[putCells,Array.getElem?_mapIdx,qAS hjc,qBh,qAr,qAG,hjf,and_self,if_true,Nat.sub_zero,id_eq];rw[qAS hjf,getElem!_pos _ j hjf]
     ·rw[if_neg hj,qAt (by rw[hfml',hlen'];omega)]
    ·obtain⟨z,_,rfl⟩:=qz1.1 hd;rw[hev z];exact⟨rfl,by simp[D.cells,hk]⟩
    ·have hfl':be (l'.map enc)=(l'.flatMap ev).map D.v:=by
      unfold be;rw[List.flatMap_map,List.map_flatMap];congr 1;funext z;rw[hev z];rfl
     rw[hfl',qz7,h1]at h2;cases h2;obtain⟨z,_,hz⟩:=qBB.1 (qzY h1);exact⟨(hone z y hz).1, .v y (hone z y hz).1 (hone z y hz).2⟩
   ·have hne:∀b,r.blk=some b->b≠gb:=λb hb e=>n1 (hsat.dis i id r _ gb k1 hid' (e ▸hb) hbo)
    exact(hsat.ok i r k1).conv hmove (λb hb=>hwo b ((hsat.ok i r k1).lt hb) (hne b hb))
end
instance:Inhabited Span:=⟨⟨0,0⟩⟩
def qyD(s:Span):List Value:=[.int .i64 s.b, .int .i64 s.e]
def zw(x y:Span):ltOf rQ x y=decide (AP x y):=by
 unfold ltOf;have:=Xa x y;by_cases h:AP x y
 ·simp only[h,decide_true,decide_eq_true_eq];by_cases h0:0<=rQ x y
  ·exact absurd h (this.1 h0)
  ·omega
 ·simp only[h,decide_false,decide_eq_false_iff_not];have:=this.2 h;omega
def qlH:Go.Sort.SWO (ltOf rQ) where
 irrefl x:=by rw[zw];simp[Gu]
 trans x y z h1 h2:=by rw[zw]at*;simp at*;exact Ip h1 h2
 ntrans x y z h1 h2:=by rw[zw]at*;simp at*;unfold AP at*;omega
def Ut{P:Program}{f:Nat}{X Y:Type}[Cod Y]{A:fT X}{pre pre':X->List Y->Prop}{post post':X->List Y->List Y->Prop}{el n:Nat}(h:Tri dq P f (qoh A pre post el n).pt)(h1:∀x l,pre' x l->pre x l)(h2:∀x l r,pre' x l->post x l r->post' x l r):
 Tri dq P f (qoh A pre' post' el n).pt:=λO tp w vs ds H d K a b c e g ⟨id,v,l,ds',x,k1,k2,k3,k4,k5⟩=>h O tp w vs ds H d K a b c e g ⟨id,v,l,ds',x,k1,k2,k3,h1 x l k4,λl' hp=>k5 l' (h2 x l l' k4 hp)⟩
end Go.Gv
