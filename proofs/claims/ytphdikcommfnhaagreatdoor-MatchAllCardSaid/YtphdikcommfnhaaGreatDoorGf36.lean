/- A part of the framework and of the walks: Sh24b C69 W158 C60 V56 W161 W162 V4 V11 V6 V7 V8 V12 V13 W2 W31 V15 V16 T24 V18. -/
import Derived.Shelf.SlGeneric
import Derived.Shelf.SlLaysF0
import Derived.Shelf.SlMaps.Clone
import Derived.Ground.SlsfProg
import Derived.Ground.SlmcProg
import Derived.Test.YtphdikcommfnhaaGreatDoorProg
import Derived.Test.YtphdikcommfnhaaGreatDoorGf20
import Derived.Test.YtphdikcommfnhaaGreatDoorGf32
import Derived.Test.YtphdikcommfnhaaGreatDoorGf31
import Derived.Test.YtphdikcommfnhaaGreatDoorGf24
import Derived.Test.YtphdikcommfnhaaGreatDoorGf29
import Derived.Test.YtphdikcommfnhaaGreatDoorGf26
import Derived.Test.YtphdikcommfnhaaGreatDoorGf21
import Derived.Test.YtphdikcommfnhaaGreatDoorGf35
import Derived.Test.YtphdikcommfnhaaGreatDoorGf18
import Derived.Test.YtphdikcommfnhaaGreatDoorGf27
set_option linter.unusedSimpArgs false
set_option linter.unusedVariables false
set_option linter.unusedSectionVars false
set_option maxRecDepth 100000
set_option maxHeartbeats 0

namespace Go.Proofs
open Go.Shelf
def Tryz.sortMatch_ren:Go.Shelf.Ren:=⟨fun|6=>83|15=>136|14=>135|28=>194|29=>195|20=>186|21=>187|22=>188|23=>189|24=>190|25=>191|26=>192|27=>193|46=>230|47=>231|48=>232|49=>233|50=>234|57=>268|n=>n,fun|22=>47|24=>55|25=>56|3=>3|39=>190|0=>0|53=>239|55=>241|4=>4|46=>232|45=>231|50=>236|5=>5|9=>9|66=>269|70=>273|76=>298|77=>67|n=>n,fun|n=>n⟩
theorem Tryz.sortMatch:Go.Proofs.SlLaysF0.n6 Tryz.prog Tryz.sortMatch_ren:={
 mixed:=by kernel_rfl
 f6:=⟨Tryz.f83.name,by decide,Tryz.func83.trans (congrArg some (by kernel_rfl))⟩
 f14:=⟨Tryz.f135.name,by decide,Tryz.func135.trans (congrArg some (by kernel_rfl))⟩
 f15:=Tryz.func136.trans (congrArg some (by kernel_rfl))
 f20:=⟨Tryz.f186.name,by decide,Tryz.func186.trans (congrArg some (by kernel_rfl))⟩
 f21:=⟨Tryz.f187.name,by decide,Tryz.func187.trans (congrArg some (by kernel_rfl))⟩
 f22:=⟨Tryz.f188.name,by decide,Tryz.func188.trans (congrArg some (by kernel_rfl))⟩
 f23:=⟨Tryz.f189.name,by decide,Tryz.func189.trans (congrArg some (by kernel_rfl))⟩
 f24:=⟨Tryz.f190.name,by decide,Tryz.func190.trans (congrArg some (by kernel_rfl))⟩
 f25:=⟨Tryz.f191.name,by decide,Tryz.func191.trans (congrArg some (by kernel_rfl))⟩
 f26:=⟨Tryz.f192.name,by decide,Tryz.func192.trans (congrArg some (by kernel_rfl))⟩
 f27:=⟨Tryz.f193.name,by decide,Tryz.func193.trans (congrArg some (by kernel_rfl))⟩
 f28:=Tryz.func194.trans (congrArg some (by kernel_rfl))
 f29:=Tryz.func195.trans (congrArg some (by kernel_rfl))
 f46:=⟨Tryz.f230.name,by decide,Tryz.func230.trans (congrArg some (by kernel_rfl))⟩
 f47:=Tryz.func231.trans (congrArg some (by kernel_rfl))
 f48:=Tryz.func232.trans (congrArg some (by kernel_rfl))
 f49:=⟨Tryz.f233.name,by decide,Tryz.func233.trans (congrArg some (by kernel_rfl))⟩
 f50:=⟨Tryz.f234.name,by decide,Tryz.func234.trans (congrArg some (by kernel_rfl))⟩
 f57:=⟨Tryz.f268.name,by decide,Tryz.func268.trans (congrArg some (by kernel_rfl))⟩
 t0:=Tryz.underlying0
 a0:=Tryz.isAgg0
 z0:=Tryz.sizeOf0
 v0:=Tryz.zeroValue0
 t3:=Tryz.underlying3
 a3:=Tryz.isAgg3
 z3:=Tryz.sizeOf3
 v3:=Tryz.zeroValue3
 t4:=Tryz.underlying4
 a4:=Tryz.isAgg4
 z4:=Tryz.sizeOf4
 v4:=Tryz.zeroValue4
 t5:=Tryz.underlying5
 a5:=Tryz.isAgg5
 z5:=Tryz.sizeOf5
 v5:=Tryz.zeroValue5
 t9:=Tryz.underlying9
 a9:=Tryz.isAgg9
 z9:=Tryz.sizeOf9
 v9:=Tryz.zeroValue9
 t22:=Tryz.underlying47
 a22:=Tryz.isAgg47
 z22:=Tryz.sizeOf47
 v22:=Tryz.zeroValue47
 t25:=Tryz.underlying56
 a25:=Tryz.isAgg56
 z25:=Tryz.sizeOf56
 v25:=Tryz.zeroValue56
 t39:=Tryz.underlying190
 a39:=Tryz.isAgg190
 z39:=Tryz.sizeOf190
 v39:=Tryz.zeroValue190
 t45:=Tryz.underlying231
 a45:=Tryz.isAgg231
 z45:=Tryz.sizeOf231
 v45:=Tryz.zeroValue231
 t46:=Tryz.underlying232
 a46:=Tryz.isAgg232
 z46:=Tryz.sizeOf232
 v46:=Tryz.zeroValue232
 t50:=Tryz.underlying236
 a50:=Tryz.isAgg236
 z50:=Tryz.sizeOf236
 v50:=Tryz.zeroValue236
 t53:=Tryz.underlying239
 a53:=Tryz.isAgg239
 z53:=Tryz.sizeOf239
 v53:=Tryz.zeroValue239
 t55:=Tryz.underlying241
 a55:=Tryz.isAgg241
 z55:=Tryz.sizeOf241
 v55:=Tryz.zeroValue241
 t66:=Tryz.underlying269
 a66:=Tryz.isAgg269
 z66:=Tryz.sizeOf269
 v66:=Tryz.zeroValue269
 t70:=Tryz.underlying273
 a70:=Tryz.isAgg273
 z70:=Tryz.sizeOf273
 v70:=Tryz.zeroValue273
 t76:=Tryz.underlying298
 a76:=Tryz.isAgg298
 z76:=Tryz.sizeOf298
 v76:=Tryz.zeroValue298
 t77:=Tryz.underlying67
 a77:=Tryz.isAgg67
 z77:=Tryz.sizeOf67
 v77:=Tryz.zeroValue67 }
def Tryz.cloneSet_ren:Go.Shelf.Ren:=⟨fun|5=>184|7=>229|n=>n,fun|23=>134|25=>139|3=>4|4=>4|20=>20|n=>n,fun|n=>n⟩
theorem Tryz.cloneSet:Go.Proofs.SlLaysW.n5 Tryz.prog Tryz.cloneSet_ren:={
 mixed:=by kernel_rfl
 f5:=⟨Tryz.f184.name,by decide,Tryz.func184.trans (congrArg some (by kernel_rfl))⟩
 f7:=Tryz.func229.trans (congrArg some (by kernel_rfl))
 t4:=Tryz.underlying4
 a4:=Tryz.isAgg4
 z4:=Tryz.sizeOf4
 v4:=Tryz.zeroValue4
 t20:=Tryz.underlying20
 a20:=Tryz.isAgg20
 z20:=Tryz.sizeOf20
 v20:=Tryz.zeroValue20
 t23:=Tryz.underlying134
 a23:=Tryz.isAgg134
 z23:=Tryz.sizeOf134
 v23:=Tryz.zeroValue134 }
end Go.Proofs

namespace Go.Gv
open Go.Proofs
def tS:CC:=gq Tryz.f45 [2027003,1026026] {} _
def sY:List aj:=[.cell 2 true 7]
theorem JI:ak Tryz.prog vu [2027003,1026026] tS sY 29:=fo
def tT:CC:=gq Tryz.f18 [] {} _
def sZ:List aj:=[.tmp 0]
theorem JJ:ak Tryz.prog vv [] tT sZ 34:=fo
def tE:CC:=gq Tryz.f20 [2,3,100020,100012] {} _
def sK:List aj:=[.tmp 4]
theorem Jt:ak Tryz.prog vm [2,3,100020,100012] tE sK 64:=fo
def uE:CC:=gq Tryz.f17 [] {} _
def un:List aj:=[.tmp 4]
theorem Q2:ak Tryz.prog xK [] uE un 27:=fo
end Go.Gv

namespace Go.Gv
open Cod (enc dec)
variable {S S0:Nat->Spc}
end Go.Gv

namespace Go.Gv
open Go.Proofs
end Go.Gv

namespace Go.Gv
open Go.Proofs
def valsA:List B:=[⟨#[97]⟩,⟨#[98]⟩,⟨#[97,46,42]⟩,⟨#[91,97,98,93]⟩,⟨#[88]⟩,⟨#[]⟩,⟨#[99,63]⟩,⟨#[97,124,98]⟩,⟨#[89]⟩,⟨#[111,46,42]⟩,⟨#[78]⟩,⟨#[97,124,88]⟩]
def wordsA:List B:=[⟨#[97]⟩,⟨#[98]⟩,⟨#[99]⟩,⟨#[65]⟩,⟨#[97,98]⟩,⟨#[]⟩,⟨#[88]⟩,⟨#[89]⟩,⟨#[116,104,101]⟩,⟨#[111,108,100]⟩,⟨#[109,97,110]⟩,⟨#[68]⟩,⟨#[65]⟩,⟨#[78]⟩,⟨#[124]⟩,⟨#[124,112,124]⟩,⟨#[124,112,124,113,124]⟩,⟨#[124,113,124]⟩]
def qlL:Bool:=valsA.all fun v=>wordsA.all fun w=>(CF v w false).isSome && (CF v w true).isSome
theorem qfl:qlL=true:=by kernel_rfl
theorem JQ{v w:B}(hv:v∈valsA)(hw:w∈wordsA)(f:Bool):∃y,CF v w f=some y:=by
 have h:=qwV.1 (qwV.1 qfl v hv) w hw
 simp only[qwX]at h
 cases f
 ·exact qxL.1 h.1
 ·exact qxL.1 h.2
end Go.Gv

namespace Go.Gv
open Go.Proofs
open Cod (enc dec)
variable {S S0:Nat->Spc}
theorem qfR{H0 H:ab}(hh:∀i,H0 i=none){d d':D}(h:FrzTo H0 d d'):FrzTo H d d':=by
 induction h with
 | same d=>exact .same d
 | any d=>exact .any d
 | nil n=>exact .nil n
 | own i j x=>exact .own i j x
 | nilown j=>exact .nilown j
 | bptr i j b off=>exact .bptr i j b off
 | row h _ _ _ _=>rw[hh]at h;cases h
 | sub h _ _ _ _=>rw[hh]at h;cases h
 | list hl hk _ ih=>exact .list hl hk ih
 | box h=>rw[hh]at h;cases h
 | agg hl _ ih=>exact .agg hl ih
 | tup hl _ ih=>exact .tup hl ih
 | clo hl _ ih=>exact .clo hl ih
 | nomp=>exact .nomp
 | mrow h _ _ _=>rw[hh]at h;cases h
 | mp hl _ ih=>exact .mp hl ih
theorem qfQ{H:ab}{d d':D}(h:FrzTo bJ d d'):FrzTo H d d':=qfR (fun _=>rfl) h
end Go.Gv

namespace Go.Gv
open Go.Proofs
open Cod (enc dec)
variable {S S0:Nat->Spc}
def OkCorp(c:Corpus):Prop:=c.attrs=ge/\1<=c.toks.length/\c.toks.length<=4096/\∀r∈c.toks,EN r
theorem OkCorp.sz{c:Corpus}(h:OkCorp c):qkz c:=by
 obtain⟨h1,h2,h3,h4⟩:=h
 refine⟨by omega,fun r hr=>?_,by rw[h1];decide⟩
 obtain⟨w,t,f,_,_,_,rfl⟩:=h4 r hr
 simp
theorem Sq:∀ {l:List ua} {s e:Int},BR s l e->s<=e
 | [],s,e,h=>by have h:s=e:=h;omega
 | a::l,s,e,h=>by have:=Sq h.2.2;have:=h.1;have:=h.2.1;omega
theorem qiT{c:Corpus}(h:SN c)(hk:Mc c):OkCorp c:=by
 obtain⟨h1,h2,h3,_⟩:=h
 refine⟨hk.1,?_,h3,hk.2⟩
 cases hl:c.texts with
 | nil=>exact absurd hl h2
 | cons a l=>
   rw[hl]at h1
   have:=Sq h1.2.2
   have:=h1.1
   have:=h1.2.1
   omega
end Go.Gv

namespace Go.Gv
def qq0:B:=⟨#[115]⟩
def qgr:B:=⟨#[110,112]⟩
def qqZ:B:=⟨#[116]⟩
def qj5:B:=⟨#[120]⟩
def qld:B:=⟨#[121]⟩
def Types:List B:=[qq0,qgr,qqZ]
def U0:List (Int×Int):=[(0,1),(0, -1),(1, -1),(2,2),(0,2),(1,3),(0,0)]
def qlm(lb:List B)(p:Pat):Prop:=(p.op=1/\(p.lab=⟨#[]⟩\/p.lab∈lb)/\p.reg=⟨#[]⟩/\p.mn=0/\p.mx=0/\p.kids=[])\/((p.op=2\/p.op=3)/\p.cond=Cond0/\p.lab=⟨#[]⟩/\p.reg∈Types/\p.mn=0/\p.mx=0/\p.kids=[])
def WP(lb:List B):Nat->Pat->Prop
 | 0,p=>qlm lb p
 | n+1,p=>qlm lb p\/((p.op=4\/p.op=5)/\p.cond=Cond0/\p.lab=⟨#[]⟩/\p.reg=⟨#[]⟩/\p.mn=0/\p.mx=0/\∃a b,p.kids=[a,b]/\WP lb n a/\WP lb n b)\/
   (p.op=6/\p.cond=Cond0/\p.lab=⟨#[]⟩/\p.reg=⟨#[]⟩/\(p.mn,p.mx) ∈U0/\∃a,p.kids=[a]/\WP lb n a)
theorem qrl{lb:List B}{n:Nat}{p:Pat}(h:qlm lb p):WP lb n p:=by
 cases n
 ·exact h
 ·exact .inl h
def qdP(lb:List B):Prop:=∀l∈lb,l=qj5\/l=qld
theorem zd{lb:List B}{n:Nat}{p:Pat}(h:WP lb n p):qlm lb p\/ ∃m,n=m+1/\(((p.op=4\/p.op=5)/\p.cond=Cond0/\p.lab=⟨#[]⟩/\p.reg=⟨#[]⟩/\p.mn=0/\p.mx=0/\∃a b,p.kids=[a,b]/\WP lb m a/\WP lb m b)\/
 (p.op=6/\p.cond=Cond0/\p.lab=⟨#[]⟩/\p.reg=⟨#[]⟩/\(p.mn,p.mx) ∈U0/\∃a,p.kids=[a]/\WP lb m a)):=by
 cases n with
 | zero=>exact .inl h
 | succ m=>exact h.elim .inl fun h=> .inr ⟨m,rfl,h⟩
theorem If{lb:List B}{C:Nat->Pat->Prop}(h:∀n p,WP lb n p->(∀k∈p.kids,∃m,n=m+1/\WP lb m k/\C m k)->C n p):∀n p,WP lb n p->C n p:=by
 intro n
 induction n with
 | zero=>
   intro p hp
   refine h 0 p hp fun k hk=>?_
   rcases hp with hp|hp
   ·rw[hp.2.2.2.2.2]at hk;simp at hk
   ·rw[hp.2.2.2.2.2.2]at hk;simp at hk
 | succ m ih=>
   intro p hp
   refine h (m+1) p hp fun k hk=>⟨m,rfl,?_⟩
   have:WP lb m k:=by
    rcases hp with(hp|hp)|hp|hp
    ·rw[hp.2.2.2.2.2]at hk;simp at hk
    ·rw[hp.2.2.2.2.2.2]at hk;simp at hk
    ·obtain⟨a,b,e,ha,hb⟩:=hp.2.2.2.2.2.2
     rw[e]at hk
     simp at hk
     rcases hk with rfl|rfl
     ·exact ha
     ·exact hb
    ·obtain⟨a,e,ha⟩:=hp.2.2.2.2.2
     rw[e]at hk
     simp at hk
     subst hk
     exact ha
   exact⟨this,ih k this⟩
theorem qd1{v:B->Bool}{lb:List B}(hl:qdP lb)(hv:v qq0=true/\v qgr=true/\v qqZ=true/\v qj5=true/\v qld=true):∀n p,WP lb n p->n<=90->pq v p=true:=by
 have key:∀n p,WP lb n p->(n<=90->∀d:Int,d+n<=100->di p d=true)/\eV Ac p=true/\eV (uu v) p=true/\eV xt p=true:=by
  refine If fun n p hp ih=>?_
  have hnode:Ac p=true/\uu v p=true/\xt p=true:=by
   rw[A5]
   unfold vP uu xt
   rw[decide_eq_true_eq,decide_eq_true_eq]
   have hr:(p.mn,p.mx) ∈U0->0<=p.mn/\p.mn<=16/\(p.mx= -1\/p.mn<=p.mx/\p.mx<=16):=by
    intro h
    simp[U0]at h
    omega
   have ht:p.reg∈Types->v p.reg=true:=by
    intro h
    simp[Types]at h
    rcases h with h|h|h <;> rw[h]
    ·exact hv.1
    ·exact hv.2.1
    ·exact hv.2.2.1
   rcases zd hp with(⟨h1,h2,h3,h4,h5,h6⟩|⟨h1,h2,h3,h4,h5,h6,h7⟩)|⟨m,_,(⟨h1,h2,h3,h4,h5,h6,a,b,h7,_⟩|⟨h1,h2,h3,h4,h5,a,h7,_⟩)⟩
   ·refine⟨.inl ⟨h1,h3,h4,h5,h6⟩,⟨fun h=>by omega,fun hne=>?_⟩,fun h=>by omega⟩
    rcases h2 with h2|h2
    ·exact absurd h2 hne
    ·rcases hl _ h2 with h|h <;> rw[h]
     ·exact hv.2.2.2.1
     ·exact hv.2.2.2.2
   ·exact⟨.inr (.inl ⟨h1,h2,h3,h5,h6,h7⟩),⟨fun _=>ht h4,fun h=>absurd h3 h⟩,fun h=>by omega⟩
   ·exact⟨.inr (.inr (.inl ⟨h1,h2,h3,h4,h5,h6,by rw[h7];simp⟩)),⟨fun h=>by omega,fun h=>absurd h3 h⟩,fun h=>by omega⟩
   ·exact⟨.inr (.inr (.inr ⟨h1,h2,h3,h4,by rw[h7];simp⟩)),⟨fun h=>by omega,fun h=>absurd h3 h⟩,fun _=>hr h5⟩
  refine⟨fun hn d hd=>?_,?_,?_,?_⟩
  ·rw[mw,qwX,decide_eq_true_eq,qwV]
   refine⟨by omega,fun k hk=>?_⟩
   obtain⟨m,e,_,h,_⟩:=ih k hk
   exact h (by omega) _ (by omega)
  ·rw[eH,qwX,qwV]
   exact⟨hnode.1,fun k hk=>by obtain⟨m,e,_,h⟩:=ih k hk;exact h.2.1⟩
  ·rw[eH,qwX,qwV]
   exact⟨hnode.2.1,fun k hk=>by obtain⟨m,e,_,h⟩:=ih k hk;exact h.2.2.1⟩
  ·rw[eH,qwX,qwV]
   exact⟨hnode.2.2,fun k hk=>by obtain⟨m,e,_,h⟩:=ih k hk;exact h.2.2.2⟩
 intro n p hp hn
 obtain⟨h1,h2,h3,h4⟩:=key n p hp
 unfold pq
 rw[h1 hn 1 (by omega),h2,h3,h4]
 rfl
theorem Vc{lb:List B} :∀n p,WP lb n p->n<=5->1<=km p/\km p<=3^n/\iZ p+1<=2^ (n+1):=by
 refine If fun n p hp ih hn=>?_
 have hb:(1:Int)<=3^n/\1<=2^n:=⟨Int.pow_pos (by omega),Nat.one_le_two_pow⟩
 rcases zd hp with(⟨h1,h2,h3,h4,h5,h6⟩|⟨h1,h2,h3,h4,h5,h6,h7⟩)|⟨m,rfl,(⟨h1,h2,h3,h4,h5,h6,a,b,h7,_⟩|⟨h1,h2,h3,h4,h5,a,h7,_⟩)⟩
 ·rw[vZ,Gy,if_pos h6,nn,h6,cA,Nat.pow_succ];omega
 ·rw[vZ,Gy,if_pos h7,nn,h7,cA,Nat.pow_succ];omega
 ·obtain⟨m1,e1,_,a1⟩:=ih a (by rw[h7];simp)
  obtain⟨m2,e2,_,a2⟩:=ih b (by rw[h7];simp)
  have e1:m1=m:=by omega
  have e2:m2=m:=by omega
  subst e1;subst e2
  have a1:=a1 (by omega)
  have a2:=a2 (by omega)
  rw[vZ,Gy,if_neg (by rw[h7];simp),if_neg (by omega),nn,h7]
  simp only[iy,cA]
  rw[Int.pow_succ,Nat.pow_succ]
  rw[Nat.pow_succ]at a1 a2 ⊢
  have h2:(0:Int)<=3^m2:=by omega
  have:(3:Int) ^m2<=243:=by
   have:m2=0\/m2=1\/m2=2\/m2=3\/m2=4:=by omega
   rcases this with rfl|rfl|rfl|rfl|rfl <;> decide
  omega
 ·obtain⟨m1,e1,_,a1⟩:=ih a (by rw[h7];simp)
  have e1:m1=m:=by omega
  subst e1
  have a1:=a1 (by omega)
  rw[vZ,Gy,if_neg (by rw[h7];simp),if_pos h1,nn,h7]
  simp only[iy,cA]
  rw[Int.pow_succ,Nat.pow_succ]
  rw[Nat.pow_succ]at a1 ⊢
  have:(3:Int) ^m1<=243:=by
   have:m1=0\/m1=1\/m1=2\/m1=3\/m1=4:=by omega
   rcases this with rfl|rfl|rfl|rfl|rfl <;> decide
  simp only[U0,qwT,qzd,qxe,or_false]at h5
  rw[show min (0+km a) 1000=km a by omega]
  rcases h5 with⟨e1,e2⟩|⟨e1,e2⟩|⟨e1,e2⟩|⟨e1,e2⟩|⟨e1,e2⟩|⟨e1,e2⟩|⟨e1,e2⟩ <;> rw[e1,e2] <;> simp <;> omega
end Go.Gv

namespace Go.Gv
def CS:Nat->Cond->Prop
 | 0,c=>c.kids=[]
 | n+1,c=>c.kids.length<=2/\∀k∈c.kids,CS n k
theorem UM{n:Nat}{c:Cond}(h:c.kids=[]):CS n c:=by
 cases n
 ·exact h
 ·exact⟨by rw[h];exact qxi _,fun k hk=>by rw[h]at hk;simp at hk⟩
theorem qjS{n m:Nat}{c a:Cond}(hm:n=m+1)(h:c.kids=[a])(ha:CS m a):CS n c:=by
 subst hm
 refine⟨by rw[h];exact qym _,fun k hk=>?_⟩
 rw[h]at hk
 have:k=a:=by simpa using hk
 subst this
 exact ha
theorem qjR{n m:Nat}{c a b:Cond}(hm:n=m+1)(h:c.kids=[a,b])(ha:CS m a)(hb:CS m b):CS n c:=by
 subst hm
 refine⟨by rw[h];exact qwY _,fun k hk=>?_⟩
 rw[h]at hk
 have:k=a\/k=b:=by simpa using hk
 rcases this with rfl|rfl
 ·exact ha
 ·exact hb
theorem qf9{n:Nat}{c d:Cond}(h:c.kids=d.kids)(hd:CS n d):CS n c:=by
 cases n
 ·exact h.trans hd
 ·exact⟨by rw[h];exact hd.1,fun k hk=>hd.2 k (by rw[<-h];exact hk)⟩
theorem qjT{n:Nat}{c:Cond}(h:CS n c):c.kids.length<=2:=by
 cases n
 ·have:c.kids=[]:=h
  rw[this];exact qxi _
 ·exact h.1
def PD:Nat->Pat->Prop
 | 0,p=>(∃m,CS m p.cond)/\p.kids=[]
 | n+1,p=>(∃m,CS m p.cond)/\p.kids.length<=2/\∀k∈p.kids,PD n k
theorem qbb{n:Nat}{p:Pat}(hc:∃m,CS m p.cond)(h:p.kids=[]):PD n p:=by
 cases n
 ·exact⟨hc,h⟩
 ·exact⟨hc,by rw[h];exact qxi _,fun k hk=>by rw[h]at hk;simp at hk⟩
theorem qiM{n m:Nat}{p a:Pat}(hm:n=m+1)(hc:∃m,CS m p.cond)(h:p.kids=[a])(ha:PD m a):PD n p:=by
 subst hm
 refine⟨hc,by rw[h];exact qym _,fun k hk=>?_⟩
 rw[h]at hk
 have:k=a:=by simpa using hk
 subst this
 exact ha
theorem qba{n m:Nat}{p a b:Pat}(hm:n=m+1)(hc:∃m,CS m p.cond)(h:p.kids=[a,b])(ha:PD m a)(hb:PD m b):PD n p:=by
 subst hm
 refine⟨hc,by rw[h];exact qwY _,fun k hk=>?_⟩
 rw[h]at hk
 have:k=a\/k=b:=by simpa using hk
 rcases this with rfl|rfl
 ·exact ha
 ·exact hb
theorem WG:∃m,CS m Cond0:=⟨0,rfl⟩
theorem qe2{n:Nat}{p:Pat}(h:PD n p):∃m,CS m p.cond:=by cases n <;> exact h.1
theorem qiN{n:Nat}{p:Pat}(h:PD n p):p.kids.length<=2:=by
 cases n
 ·rw[h.2];exact qxi _
 ·exact h.2.1
theorem qiO{n:Nat}{p k:Pat}(h:PD n p)(hk:k∈p.kids):∃m,n=m+1/\PD m k:=by
 cases n
 ·rw[h.2]at hk;simp at hk
 ·exact⟨_,rfl,h.2.2 k hk⟩
theorem qjU{n:Nat}{p k:Cond}(h:CS n p)(hk:k∈p.kids):∃m,n=m+1/\CS m k:=by
 cases n
 ·have h:p.kids=[]:=h
  rw[h]at hk;simp at hk
 ·exact⟨_,rfl,h.2 k hk⟩
end Go.Gv

namespace Go.Gv
open Cod (enc dec)
structure Glob where
 op:Int
 a:B
 b:B
 name:B
 arg:B
 val:B
 fold:Bool
 mn:Int
 mx:Int
 args:List B
 kids:List Glob
mutual
def Kp:Glob->D
 | .mk p0 p1 p2 p3 p4 p5 p6 p7 p8 p9 ks=> .agg [enc p0,enc p1,enc p2,enc p3,enc p4,enc p5,enc p6,enc p7,enc p8,enc p9, .list 11 (yE ks)]
def yE:List Glob->List D
 | []=>[]
 | k::ks=>Kp k::yE ks
end
mutual
def Sl:D->Option Glob
 | .agg [x0,x1,x2,x3,x4,x5,x6,x7,x8,x9,x10]=>(dec x0).bind fun p0=>(dec x1).bind fun p1=>(dec x2).bind fun p2=>(dec x3).bind fun p3=>(dec x4).bind fun p4=>(dec x5).bind fun p5=>(dec x6).bind fun p6=>(dec x7).bind fun p7=>(dec x8).bind fun p8=>(dec x9).bind fun p9=>(GZ x10).bind fun ks=>some (.mk p0 p1 p2 p3 p4 p5 p6 p7 p8 p9 ks)
 | _=>none
def GZ:D->Option (List Glob)
 | .list n es=>if n=11 then AB es else none
 | .v (.slice none 0 0)=>some []
 | _=>none
def AB:List D->Option (List Glob)
 | []=>some []
 | d::ds=>(Sl d).bind fun x=>(AB ds).bind fun xs=>some (x::xs)
end
theorem FY:∀l:List Glob,yE l=l.map Kp
 | []=>rfl
 | _::l=>by rw[yE,FY l];rfl
theorem Wx:∀c:Glob,(Kp c).kn=true
 | .mk .. =>rfl
theorem RX:∀c:Glob,(Kp c).cells.length=11
 | .mk .. =>rfl
mutual
theorem Sk:∀c:Glob,Sl (Kp c)=some c
 | .mk p0 p1 p2 p3 p4 p5 p6 p7 p8 p9 ks=>by
   have h:GZ (.list 11 (yE ks))=some ks:=by rw[GZ,if_pos rfl];exact Nd ks
   simp only[Kp,Sl,Cod.dec_enc,qw7,h]
theorem Nd:∀l:List Glob,AB (yE l)=some l
 | []=>by simp only[yE,AB]
 | c::l=>by simp only[yE,AB,Sk c,Nd l,qw7]
end
mutual
theorem WE:∀ (d:D) (c:Glob),Sl d=some c->FrzTo bJ d (Kp c)
 | .agg [x0,x1,x2,x3,x4,x5,x6,x7,x8,x9,x10],c,h=>by
   simp only[Sl,qwN,qw2]at h
   obtain⟨p0,h0,p1,h1,p2,h2,p3,h3,p4,h4,p5,h5,p6,h6,p7,h7,p8,h8,p9,h9,ks,hk,rfl⟩:=h
   rw[Kp]
   exact LeL.agg (.cons (Cod.le _ _ h0) (.cons (Cod.le _ _ h1) (.cons (Cod.le _ _ h2) (.cons (Cod.le _ _ h3) (.cons (Cod.le _ _ h4) (.cons (Cod.le _ _ h5) (.cons (Cod.le _ _ h6) (.cons (Cod.le _ _ h7) (.cons (Cod.le _ _ h8) (.cons (Cod.le _ _ h9) ((.cons (qcO x10 ks hk) .nil))))))))))))
theorem qcO:∀ (d:D) (l:List Glob),GZ d=some l->FrzTo bJ d (.list 11 (yE l))
 | .list n es,l,h=>by
   simp only[GZ]at h
   split at h
   ·rename_i hn
    subst hn
    have hl:=Sj es l h
    refine .list hl.1 (fun e he=>?_) hl.2
    rw[FY]at he
    obtain⟨x,hx,rfl⟩:=qw3.1 he
    exact⟨Wx x,RX x⟩
   ·cases h
 | .v (.slice none 0 0),l,h=>by
   simp only[GZ,qw2]at h
   subst h
   exact .nil _
theorem Sj:∀ (es:List D) (l:List Glob),AB es=some l->LeL es (yE l)
 | [],l,h=>by
   simp only[AB,qw2]at h
   subst h
   exact .nil
 | d::ds,l,h=>by
   simp only[AB,qwN,qw2]at h
   obtain⟨x,h1,xs,h2,rfl⟩:=h
   rw[yE]
   exact .cons (WE d x h1) (Sj ds xs h2)
end
instance:Cod Glob where
 wd:=11
 enc:=Kp
 dec:=Sl
 kn:=Wx
 wid:=RX
 dec_enc:=Sk
 le:=WE
theorem Y3(ks:List Glob):D.list 11 (yE ks)=enc ks:=by rw[FY];rfl
theorem Kx:∀es:List D,AB es=es.mapM (dec (X:=Glob))
 | []=>by simp[AB]
 | d::es=>by
   rw[AB,qxu,Kx es]
   rfl
theorem qcP:∀d:D,GZ d=dec (X:=List Glob) d:=fun d=>by
 unfold GZ
 split
 ·rename_i n es
  show _=if n=11 then es.mapM (dec (X:=Glob))else none
  rw[Kx]
 ·rfl
 ·rename_i h1 h2
  show _=(match d with
   | .list n es=>if n=11 then es.mapM (dec (X:=Glob))else none
   | .v (.slice none 0 0)=>some []
   | _=>none)
  split
  ·exact absurd rfl (h1 _ _)
  ·exact absurd rfl h2
  ·rfl
@[simp] theorem qm8(s:Glob):Glob.mk s.op s.a s.b s.name s.arg s.val s.fold s.mn s.mx s.args s.kids=s:=by cases s;rfl
@[simp] theorem Kn(s:Glob):enc s= .agg [enc s.op,enc s.a,enc s.b,enc s.name,enc s.arg,enc s.val,enc s.fold,enc s.mn,enc s.mx,enc s.args,enc s.kids]:=by
 rw[<-Y3]
 cases s
 show Kp _=_
 rw[Kp]
@[simp] theorem qoj:Cod.wd Glob=11:=id rfl
@[simp] theorem qnl(x0 x1 x2 x3 x4 x5 x6 x7 x8 x9 x10:D):dec (X:=Glob) (.agg [x0,x1,x2,x3,x4,x5,x6,x7,x8,x9,x10])=((dec x0).bind fun x0=>(dec x1).bind fun x1=>(dec x2).bind fun x2=>(dec x3).bind fun x3=>(dec x4).bind fun x4=>(dec x5).bind fun x5=>(dec x6).bind fun x6=>(dec x7).bind fun x7=>(dec x8).bind fun x8=>(dec x9).bind fun x9=>(dec x10).bind fun x10=>some ⟨x0,x1,x2,x3,x4,x5,x6,x7,x8,x9,x10⟩):=by
 show Sl _=_
 simp only[Sl,qcP]
structure sk where
 op:Int
 neg:Bool
 reg:B
instance:Cod sk where
 wd:=3
 enc f:= .agg [enc f.op,enc f.neg,enc f.reg]
 dec| .agg [x0,x1,x2]=>(dec x0).bind fun a=>(dec x1).bind fun b=>(dec x2).bind fun c=>some ⟨a,b,c⟩|_=>none
 kn _:=rfl
 wid _:=rfl
 dec_enc f:=by simp only[Cod.dec_enc,qw7]
 le d x h:=by
  split at h
  ·simp only[qwN,qw2]at h
   obtain⟨a,h0,b,h1,c,h2,rfl⟩:=h
   exact LeL.agg (.cons (Cod.le _ _ h0) (.cons (Cod.le _ _ h1) (.cons (Cod.le _ _ h2) .nil)))
  ·cases h
@[simp] theorem qne(s:sk):enc s= .agg [enc s.op,enc s.neg,enc s.reg]:=id rfl
@[simp] theorem qok:Cod.wd sk=3:=id rfl
structure Qry where
 pat:Pat
 glob:Glob
 filts:List sk
 strat:Int
def F4:Pat->List D| .mk op c l r mn mx ks=>enc op::(AE c++ [enc l,enc r,enc mn,enc mx,enc ks])
theorem Zb:∀p:Pat,D.agg (F4 p)=enc p
 | .mk .. =>(O3 ..).symm
theorem UQ:∀p:Pat,(F4 p).length=13
 | .mk op c l r mn mx ks=>by simp[F4,KD]
def KC(g:Glob):List D:=[enc g.op,enc g.a,enc g.b,enc g.name,enc g.arg,enc g.val,enc g.fold,enc g.mn,enc g.mx,enc g.args,enc g.kids]
theorem Zc(g:Glob):D.agg (KC g)=enc g:=(Kn g).symm
theorem qdo{l l':List D}(h:FrzTo bJ (.agg l) (.agg l')):LeL l l':=by
 cases h with
 | same=>exact⟨rfl,fun k x y hx hy=>by rw[hx]at hy;cases hy;exact .same _⟩
 | agg hl h=>exact⟨hl,h⟩
theorem qcI{l:List D}{p:Pat}(h:dec (D.agg l)=some p):LeL l (F4 p):=qdo (by rw[Zb];exact Cod.le _ _ h)
theorem Y5{l:List D}{p:Glob}(h:dec (D.agg l)=some p):LeL l (KC p):=qdo (by rw[Zc];exact Cod.le _ _ h)
def qjA(q:Qry):D:= .agg (F4 q.pat++ (KC q.glob++ [enc q.filts,enc q.strat]))
def qjL:D->Option Qry
 | .agg [x0,x1,x2,x3,x4,x5,x6,x7,x8,x9,x10,x11,x12,y0,y1,y2,y3,y4,y5,y6,y7,y8,y9,y10,f,s]=>(dec (D.agg [x0,x1,x2,x3,x4,x5,x6,x7,x8,x9,x10,x11,x12])).bind fun p=>(dec (D.agg [y0,y1,y2,y3,y4,y5,y6,y7,y8,y9,y10])).bind fun g=>(dec f).bind fun fs=>(dec s).bind fun st=>some ⟨p,g,fs,st⟩
 | _=>none
instance:Cod Qry where
 wd:=26
 enc:=qjA
 dec:=qjL
 kn _:=rfl
 wid q:=by simp[qjA,D.cells,UQ,KC]
 dec_enc q:=by
  obtain⟨⟨op,⟨o,n,a,v,l,f,cks⟩,lb,rg,mn,mx,ks⟩,g,fs,st⟩:=q
  have h1:=Cod.dec_enc (⟨op,⟨o,n,a,v,l,f,cks⟩,lb,rg,mn,mx,ks⟩:Pat)
  have h2:=Cod.dec_enc g
  rw[O3]at h1
  rw[Kn]at h2
  simp only[AE,qxA,qxG]at h1
  simp only[qjA,F4,AE,KC,qxA,qxG,qjL,h1,h2,Cod.dec_enc,qw7]
 le d x h:=by
  unfold qjL at h
  split at h
  ·simp only[qwN,qw2]at h
   obtain⟨p,h0,g,h1,fs,h2,st,h3,rfl⟩:=h
   exact LeL.agg ((qcI h0).append ((Y5 h1).append (.cons (Cod.le _ _ h2) (.cons (Cod.le _ _ h3) .nil))))
  ·cases h
@[simp] theorem qp7(s:Qry):Qry.mk s.pat s.glob s.filts s.strat=s:=by cases s;rfl
@[simp] theorem qqi(s:Qry):enc s= .agg [enc s.pat.op,enc s.pat.cond.op,enc s.pat.cond.name,enc s.pat.cond.arg,enc s.pat.cond.val,enc s.pat.cond.lab,enc s.pat.cond.fold,enc s.pat.cond.kids,enc s.pat.lab,enc s.pat.reg,enc s.pat.mn,enc s.pat.mx,enc s.pat.kids,enc s.glob.op,enc s.glob.a,enc s.glob.b,enc s.glob.name,enc s.glob.arg,enc s.glob.val,enc s.glob.fold,enc s.glob.mn,enc s.glob.mx,enc s.glob.args,enc s.glob.kids,enc s.filts,enc s.strat]:=by
 obtain⟨⟨op,⟨o,n,a,v,l,f,cks⟩,lb,rg,mn,mx,ks⟩,g,fs,st⟩:=s
 rfl
@[simp] theorem qqr(x0 x1 x2 x3 x4 x5 x6 x7 x8 x9 x10 x11 x12 y0 y1 y2 y3 y4 y5 y6 y7 y8 y9 y10 f s:D):dec (X:=Qry) (.agg [x0,x1,x2,x3,x4,x5,x6,x7,x8,x9,x10,x11,x12,y0,y1,y2,y3,y4,y5,y6,y7,y8,y9,y10,f,s])=((dec (D.agg [x0,x1,x2,x3,x4,x5,x6,x7,x8,x9,x10,x11,x12])).bind fun p=>(dec (D.agg [y0,y1,y2,y3,y4,y5,y6,y7,y8,y9,y10])).bind fun g=>(dec f).bind fun fs=>(dec s).bind fun st=>some ⟨p,g,fs,st⟩):=id rfl
end Go.Gv

namespace Go.Gv
open Cod (enc dec)
structure G1 where
 kind:Int
 text:B
 pos:Int
instance:Cod G1 where
 wd:=3
 enc t:= .agg [.v (.int .u8 t.kind),enc t.text,enc t.pos]
 dec| .agg [.v (.int .u8 k),x1,x2]=>(dec x1).bind fun b=>(dec x2).bind fun c=>some ⟨k,b,c⟩|_=>none
 kn _:=rfl
 wid _:=rfl
 dec_enc f:=by simp only[Cod.dec_enc,qw7]
 le d x h:=by
  split at h
  ·simp only[qwN,qw2]at h
   obtain⟨b,h1,c,h2,rfl⟩:=h
   exact LeL.agg (.cons (.same _) (.cons (Cod.le _ _ h1) (.cons (Cod.le _ _ h2) .nil)))
  ·cases h
@[simp] theorem qqf(s:G1):enc s= .agg [.v (.int .u8 s.kind),enc s.text,enc s.pos]:=id rfl
@[simp] theorem qrv:Cod.wd G1=3:=id rfl
structure Pst where
 l:List G1
 pos:Int
 deep:Int
 e:Int
 fail:Int
@[simp] theorem qp8(s:Pst):Pst.mk s.l s.pos s.deep s.e s.fail=s:=by cases s;rfl
def li(s:Pst):List D:=[enc s.l,enc s.pos,enc s.deep,enc s.e,enc s.fail]
@[simp] theorem qnw(s:Pst):li s=[enc s.l,enc s.pos,enc s.deep,enc s.e,enc s.fail]:=id rfl
def Pst.step(s:Pst):Pst:={ s with pos:=s.pos+1 }
def xu(s:Pst):Option G1:=if 0<=s.pos/\s.l.length<=1000000 then s.l[s.pos.toNat]? else none
def Wg(s:Pst)(k:Int)(t:B):Option Bool:=if s.e≠0 then some false else(xu s).map fun x=>decide (x.kind=k/\x.text=t)
def ru(s:Pst)(t:B):Option (Pst×Bool):=(Wg s 111 t).map fun b=>if b then(s.step,true)else(s,false)
def C9(s:Pst)(k:Int)(t:B):Option (Pst×B):=if s.e≠0 then none else(xu s).bind fun x=>if x.kind≠k\/k=111/\x.text≠t then none else some (s.step,x.text)
def E0:B:=⟨#[]⟩
section
variable (A:Pst->Option (Pst×Pat))
def qg5(op:Int)(l:List Pat):Pat:=match l with
 | [x]=>x
 | l=>⟨op,Cond0,E0,E0,0,0,l⟩
end
end Go.Gv

namespace Go.Gv
def qfA(s:B)(i:Nat):Bool:=match s.data[i]? with
 | some c=>decide (c.toNat=32\/c.toNat=10)
 | none=>false
def Vi:Nat->B->Nat->Nat
 | 0,_,i=>i
 | n+1,s,i=>if qfA s i then Vi n s (i+1)else i
def ul(s:B)(i:Nat):Nat:=Vi (s.size -i) s i
def qeU:Nat->B->Nat->B->Option (Nat×B)
 | 0,_,_,_=>none
 | n+1,s,j,v=>match s.data[j]? with
   | none=>none
   | some c=>if c.toNat=34 then(match s.data[j+1]? with
      | some d=>if d.toNat=34 then none else some (j,v)
      | none=>some (j,v))else qeU n s (j+1) (v++s.extract j (j+1))
def Uc(s:B)(j:Nat)(v:B):Option (Nat×B):=qeU (s.size -j) s j v
def signsL:List B:=[⟨#[60,47]⟩,⟨#[33,61]⟩,⟨#[58,58]⟩,⟨#[37,99]⟩,⟨#[91]⟩,⟨#[93]⟩,⟨#[40]⟩,⟨#[41]⟩,⟨#[123]⟩,⟨#[125]⟩,⟨#[60]⟩,⟨#[62]⟩,⟨#[124]⟩,⟨#[38]⟩,⟨#[33]⟩,⟨#[61]⟩,⟨#[58]⟩,⟨#[46]⟩,⟨#[44]⟩,⟨#[63]⟩,⟨#[42]⟩,⟨#[43]⟩,⟨#[45]⟩]
def qiK(s:B)(i:Nat)(x:B):Bool:=decide (i+x.size<=s.size/\s.extract i (i+x.size)=x)
theorem B5{s:B}{i:Nat}(h:i < s.size):ul s i=if qfA s i then ul s (i+1)else i:=by
 unfold ul
 rw[show s.size -i=(s.size - (i+1)) +1 by omega,Vi]
theorem Ml{s:B}{i:Nat}(h:s.size<=i):ul s i=i:=by
 unfold ul
 rw[show s.size -i=0 by omega,Vi]
theorem X1{s:B}{j:Nat}{v:B}{c:UInt8}(h:s.data[j]? =some c):Uc s j v=if c.toNat=34 then(match s.data[j+1]? with
 | some d=>if d.toNat=34 then none else some (j,v)
 | none=>some (j,v))else Uc s (j+1) (v++s.extract j (j+1)):=by
 have hj:j < s.size:=(qwW.1 h).1
 unfold Uc
 rw[show s.size -j=(s.size - (j+1)) +1 by omega,qeU,h]
theorem qa1{s:B}{j:Nat}{v:B}(h:s.size<=j):Uc s j v=none:=by
 unfold Uc
 rw[show s.size -j=0 by omega,qeU]
end Go.Gv

namespace Go.Gv
open Cod (enc dec)
section
variable (N:Pst->Option (Pst×Cond))(O:Pst->Option (Pst×Cond))
end
section
variable (A:Pst->Option (Pst×Pat))(O:Pst->Option (Pst×Cond))
end
section
variable (N:Pst->Option (Pst×Glob))(O:Pst->Option (Pst×Glob))
end
end Go.Gv

namespace Go.Gv
def qbN(c:Nat):Bool:=decide (65<=c/\c<=90\/97<=c/\c<=122\/c=95)
def qbT(s:B)(i:Nat):Bool:=match s.data[i]? with
 | some c=>qbN c.toNat||decide (48<=c.toNat/\c.toNat<=57\/c.toNat=45)
 | none=>false
def qfh:Nat->B->Nat->Nat
 | 0,_,i=>i
 | n+1,s,i=>if qbT s i then qfh n s (i+1)else i
def FK(s:B)(i:Nat):Nat:=qfh (s.size -i) s i
end Go.Gv

namespace Go.Gv
open Cod (enc dec)
variable {S S0:Nat->Spc}
end Go.Gv

namespace Go.Gv
open Cod (enc dec)
variable {S S0:Nat->Spc}
def AR(c:Int):Bool:=decide (65<=c/\c<=90\/97<=c/\c<=122\/c=95)
def Y7(c:Int):Bool:=AR c||decide (48<=c/\c<=57\/c=45)
def KU(s:B):Prop:=1<=s.size/\s.size<=32/\(∀c:UInt8,s.data[0]? =some c->AR c.toNat=true)/\∀ (k:Nat) (c:UInt8),s.data[k]? =some c->Y7 c.toNat=true
noncomputable def bw(s:B):Bool:= @decide (KU s) (Classical.propDecidable _)
theorem wL(s:B):bw s=true↔KU s:= @decide_eq_true_iff (KU s) (Classical.propDecidable _)
theorem ZI{s:B}(h:KU s):true=bw s:=((wL s).2 h).symm
theorem Dq{s:B}(h:¬KU s):false=bw s:=by
 rcases hb:bw s
 ·rfl
 ·exact absurd ((wL s).1 hb) h
abbrev zB:Spc:=aJ (a1 U8) (fun _=>True) (enc (X:=Bool)) fun x y=>y=AR x.val
abbrev QB:Spc:=aJ (a1 U8) (fun _=>True) (enc (X:=Bool)) fun x y=>y=Y7 x.val
abbrev zy:Spc:=aJ (a1 B) (fun _=>True) (enc (X:=Bool)) fun x y=>y=bw x
theorem Hb:aq pX pi S (a1 U8) (fun _=>True) (enc (X:=Bool)) fun x y=>y=AR x.val:=by
 rintro⟨c⟩ -
 simp[pX,pi,AR]
 repeat' first|apply And.intro|intro _
 all_goals first|omega|(rw[qxx];simp;omega)
theorem Ha(h1:S bW=zB):aq pW ph S (a1 U8) (fun _=>True) (enc (X:=Bool)) fun x y=>y=Y7 x.val:=by
 rintro⟨c⟩ -
 simp[pW,ph,h1,Y7, -Bool.forall_bool]
 rcases hb:AR c <;> simp[hb]
 repeat' first|apply And.intro|intro _
 all_goals first|omega|(rw[qxx];simp;omega)
theorem BU(h1:S bW=zB)(h2:S ep=QB):aq kS kE S (a1 B) (fun _=>True) (enc (X:=Bool)) fun x y=>y=bw x:=by
 rintro s -
 simp[kS,kE,h1,h2]
 refine fun _=>⟨fun k1 _=>⟨fun k2=>⟨by omega,fun c hc=>⟨fun hb=>(Dq fun h=>by rw[h.2.2.1 c hc]at hb;cases hb).symm,fun hb _=>?_⟩⟩,fun k2=>(Dq fun h=>by have:=h.2.1;omega).symm⟩,fun k1=>(Dq fun h=>by have:=h.1;omega).symm⟩
 refine ai (X:=Unit) [0] [] s.size (fun k _=>∀ (j:Nat) (c:UInt8),j < k->s.data[j]? =some c->Y7 c.toNat=true) (fun _=>[]) (fun _=>[]) () (by simp) (by simp) (by omega) (by simp) (by simp) (by intro j d hj;omega) (by simp) (by simp) ?_ ?_
 ·rintro k -hk h5
  simp[h2]
  refine⟨hk,fun d hd=>⟨fun hf=>(Dq fun h=>by rw[h.2.2.2 k d hd]at hf;cases hf).symm,fun ht j e hj he=>?_⟩⟩
  by_cases e1:j=k
  ·subst e1
   rw[hd]at he
   cases he
   exact ht
  ·exact h5 j e (by omega) he
 ·rintro -h5
  simp
  refine(ZI ⟨by omega,by omega,fun d hd=>by rw[hc]at hd;cases hd;exact hb,fun j e he=>h5 j e ?_ he⟩).symm
  exact(qwW.1 he).1
end Go.Gv

namespace Go.Gv
end Go.Gv

namespace Go.Gv
open Cod (enc dec)
end Go.Gv

namespace Go.Gv
open Cod (enc dec)
structure qhs where
 txt:B
 fin:Int
 kind:Int
 text:B
 pos:Int
section
variable {Y Z:Type}
variable {P:Program}{S:Nat->Spc}{f:Nat}{im:List Nat}{cc:CC}{rs:List aj}{N:Nat}
end
section
variable {Y Z:Type}
variable {P:Program}{S:Nat->Spc}{f:Nat}{im:List Nat}{cc:CC}{rs:List aj}{N:Nat}
end
end Go.Gv

namespace Go.Gv
section
variable (N:qhs->Option (qhs×Cond))(O:qhs->Option (qhs×Cond))
end
section
variable (A:qhs->Bool->Option (qhs×Pat))(O:qhs->Option (qhs×Cond))
end
def GlobE:Glob:=⟨0,E0,E0,E0,E0,E0,false,0,0, [], []⟩
end Go.Gv
