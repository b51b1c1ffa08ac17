/- A part of the framework and of the walks: Sh24b C69 W158 C60 V56 W161 W162 V4 V11 V6 V7 V8 V12 V13 W2 W31 V15 V16 T24 V18. -/
import Derived.Shelf.SlGeneric
import Derived.Shelf.SlLaysF0
import Derived.Shelf.SlMaps.Clone
import Derived.Ground.SlsfProg
import Derived.Ground.SlmcProg
import Derived.Test.YtphdikcommfnhaaGreatDoorProg
import Derived.Test.YtphdikcommfnhaaGreatDoorGg20
import Derived.Test.YtphdikcommfnhaaGreatDoorGg32
import Derived.Test.YtphdikcommfnhaaGreatDoorGg31
import Derived.Test.YtphdikcommfnhaaGreatDoorGg24
import Derived.Test.YtphdikcommfnhaaGreatDoorGg29
import Derived.Test.YtphdikcommfnhaaGreatDoorGg26
import Derived.Test.YtphdikcommfnhaaGreatDoorGg21
import Derived.Test.YtphdikcommfnhaaGreatDoorGg35
import Derived.Test.YtphdikcommfnhaaGreatDoorGg18
import Derived.Test.YtphdikcommfnhaaGreatDoorGg27
set_option linter.unusedSimpArgs false
set_option linter.unusedVariables false
set_option linter.unusedSectionVars false
set_option maxRecDepth 100000
set_option maxHeartbeats 0

namespace Go.Proofs
open Go.Shelf
def Tryz.sortMatch_ren:Go.Shelf.Ren:=⟨fun|6=>83|15=>136|14=>135|28=>194|29=>195|20=>186|21=>187|22=>188|23=>189|24=>190|25=>191|26=>192|27=>193|46=>230|47=>231|48=>232|49=>233|50=>234|57=>268|n=>n,fun|22=>47|24=>55|25=>56|3=>3|39=>190|0=>0|53=>239|55=>241|4=>4|46=>232|45=>231|50=>236|5=>5|9=>9|66=>269|70=>273|76=>298|77=>67|n=>n,fun|n=>n⟩
theorem Tryz.sortMatch:Go.Proofs.SlLaysF0.n6 Tryz.prog Tryz.sortMatch_ren:={
 mixed:=by kernel_rfl
 f6:=⟨Tryz.f83.name,by decide,Tryz.func83.trans (congrArg some (by kernel_rfl))⟩
 f14:=⟨Tryz.f135.name,by decide,Tryz.func135.trans (congrArg some (by kernel_rfl))⟩
 f15:=Tryz.func136.trans (congrArg some (by kernel_rfl))
 f20:=⟨Tryz.f186.name,by decide,Tryz.func186.trans (congrArg some (by kernel_rfl))⟩
 f21:=⟨Tryz.f187.name,by decide,Tryz.func187.trans (congrArg some (by kernel_rfl))⟩
 f22:=⟨Tryz.f188.name,by decide,Tryz.func188.trans (congrArg some (by kernel_rfl))⟩
 f23:=⟨Tryz.f189.name,by decide,Tryz.func189.trans (congrArg some (by kernel_rfl))⟩
 f24:=⟨Tryz.f190.name,by decide,Tryz.func190.trans (congrArg some (by kernel_rfl))⟩
 f25:=⟨Tryz.f191.name,by decide,Tryz.func191.trans (congrArg some (by kernel_rfl))⟩
 f26:=⟨Tryz.f192.name,by decide,Tryz.func192.trans (congrArg some (by kernel_rfl))⟩
 f27:=⟨Tryz.f193.name,by decide,Tryz.func193.trans (congrArg some (by kernel_rfl))⟩
 f28:=Tryz.func194.trans (congrArg some (by kernel_rfl))
 f29:=Tryz.func195.trans (congrArg some (by kernel_rfl))
 f46:=⟨Tryz.f230.name,by decide,Tryz.func230.trans (congrArg some (by kernel_rfl))⟩
 f47:=Tryz.func231.trans (congrArg some (by kernel_rfl))
 f48:=Tryz.func232.trans (congrArg some (by kernel_rfl))
 f49:=⟨Tryz.f233.name,by decide,Tryz.func233.trans (congrArg some (by kernel_rfl))⟩
 f50:=⟨Tryz.f234.name,by decide,Tryz.func234.trans (congrArg some (by kernel_rfl))⟩
 f57:=⟨Tryz.f268.name,by decide,Tryz.func268.trans (congrArg some (by kernel_rfl))⟩
 t0:=Tryz.underlying0
 a0:=Tryz.isAgg0
 z0:=Tryz.sizeOf0
 v0:=Tryz.zeroValue0
 t3:=Tryz.underlying3
 a3:=Tryz.isAgg3
 z3:=Tryz.sizeOf3
 v3:=Tryz.zeroValue3
 t4:=Tryz.underlying4
 a4:=Tryz.isAgg4
 z4:=Tryz.sizeOf4
 v4:=Tryz.zeroValue4
 t5:=Tryz.underlying5
 a5:=Tryz.isAgg5
 z5:=Tryz.sizeOf5
 v5:=Tryz.zeroValue5
 t9:=Tryz.underlying9
 a9:=Tryz.isAgg9
 z9:=Tryz.sizeOf9
 v9:=Tryz.zeroValue9
 t22:=Tryz.underlying47
 a22:=Tryz.isAgg47
 z22:=Tryz.sizeOf47
 v22:=Tryz.zeroValue47
 t25:=Tryz.underlying56
 a25:=Tryz.isAgg56
 z25:=Tryz.sizeOf56
 v25:=Tryz.zeroValue56
 t39:=Tryz.underlying190
 a39:=Tryz.isAgg190
 z39:=Tryz.sizeOf190
 v39:=Tryz.zeroValue190
 t45:=Tryz.underlying231
 a45:=Tryz.isAgg231
 z45:=Tryz.sizeOf231
 v45:=Tryz.zeroValue231
 t46:=Tryz.underlying232
 a46:=Tryz.isAgg232
 z46:=Tryz.sizeOf232
 v46:=Tryz.zeroValue232
 t50:=Tryz.underlying236
 a50:=Tryz.isAgg236
 z50:=Tryz.sizeOf236
 v50:=Tryz.zeroValue236
 t53:=Tryz.underlying239
 a53:=Tryz.isAgg239
 z53:=Tryz.sizeOf239
 v53:=Tryz.zeroValue239
 t55:=Tryz.underlying241
 a55:=Tryz.isAgg241
 z55:=Tryz.sizeOf241
 v55:=Tryz.zeroValue241
 t66:=Tryz.underlying269
 a66:=Tryz.isAgg269
 z66:=Tryz.sizeOf269
 v66:=Tryz.zeroValue269
 t70:=Tryz.underlying273
 a70:=Tryz.isAgg273
 z70:=Tryz.sizeOf273
 v70:=Tryz.zeroValue273
 t76:=Tryz.underlying298
 a76:=Tryz.isAgg298
 z76:=Tryz.sizeOf298
 v76:=Tryz.zeroValue298
 t77:=Tryz.underlying67
 a77:=Tryz.isAgg67
 z77:=Tryz.sizeOf67
 v77:=Tryz.zeroValue67 }
def Tryz.cloneSet_ren:Go.Shelf.Ren:=⟨fun|5=>184|7=>229|n=>n,fun|23=>134|25=>139|3=>4|4=>4|20=>20|n=>n,fun|n=>n⟩
theorem Tryz.cloneSet:Go.Proofs.SlLaysW.n5 Tryz.prog Tryz.cloneSet_ren:={
 mixed:=by kernel_rfl
 f5:=⟨Tryz.f184.name,by decide,Tryz.func184.trans (congrArg some (by kernel_rfl))⟩
 f7:=Tryz.func229.trans (congrArg some (by kernel_rfl))
 t4:=Tryz.underlying4
 a4:=Tryz.isAgg4
 z4:=Tryz.sizeOf4
 v4:=Tryz.zeroValue4
 t20:=Tryz.underlying20
 a20:=Tryz.isAgg20
 z20:=Tryz.sizeOf20
 v20:=Tryz.zeroValue20
 t23:=Tryz.underlying134
 a23:=Tryz.isAgg134
 z23:=Tryz.sizeOf134
 v23:=Tryz.zeroValue134 }
end Go.Proofs

namespace Go.Gv
open Go.Proofs
def sx:CC:=gq Tryz.f45 [2027003,1026026] {} _
def rC:List aj:=[.cell 2 true 7]
theorem HM:am Tryz.prog ub [2027003,1026026] sx rC 29:=fo
def sy:CC:=gq Tryz.f18 [] {} _
def rD:List aj:=[.tmp 0]
theorem HN:am Tryz.prog uc [] sy rD 34:=fo
def sa:CC:=gq Tryz.f20 [2,3,100020,100012] {} _
def ri:List aj:=[.tmp 4]
theorem Hz:am Tryz.prog tU [2,3,100020,100012] sa ri 64:=fo
def tk:CC:=gq Tryz.f17 [] {} _
def sV:List aj:=[.tmp 4]
theorem OJ:am Tryz.prog wl [] tk sV 27:=fo
end Go.Gv

namespace Go.Gv
open Cod (enc dec)
variable {S S0:Nat->Spc}
end Go.Gv

namespace Go.Gv
open Go.Proofs
end Go.Gv

namespace Go.Gv
open Go.Proofs
def valsA:List B:=[⟨#[97]⟩,⟨#[98]⟩,⟨#[97,46,42]⟩,⟨#[91,97,98,93]⟩,⟨#[88]⟩,⟨#[]⟩,⟨#[99,63]⟩,⟨#[97,124,98]⟩,⟨#[89]⟩,⟨#[111,46,42]⟩,⟨#[78]⟩,⟨#[97,124,88]⟩]
def wordsA:List B:=[⟨#[97]⟩,⟨#[98]⟩,⟨#[99]⟩,⟨#[65]⟩,⟨#[97,98]⟩,⟨#[]⟩,⟨#[88]⟩,⟨#[89]⟩,⟨#[116,104,101]⟩,⟨#[111,108,100]⟩,⟨#[109,97,110]⟩,⟨#[68]⟩,⟨#[65]⟩,⟨#[78]⟩,⟨#[124]⟩,⟨#[124,112,124]⟩,⟨#[124,112,124,113,124]⟩,⟨#[124,113,124]⟩]
def qiJ:Bool:=valsA.all fun v=>wordsA.all fun w=>(Bk v w false).isSome && (Bk v w true).isSome
theorem qcE:qiJ=true:=by kernel_rfl
theorem HU{v w:B}(hv:v∈valsA)(hw:w∈wordsA)(f:Bool):∃y,Bk v w f=some y:=by
 have h:=qtL.1 (qtL.1 qcE v hv) w hw
 simp only[qtN]at h
 cases f
 ·exact quB.1 h.1
 ·exact quB.1 h.2
end Go.Gv

namespace Go.Gv
open Go.Proofs
open Cod (enc dec)
variable {S S0:Nat->Spc}
theorem qdc{H0 H:ab}(hh:∀i,H0 i=none){d d':D}(h:FrzTo H0 d d'):FrzTo H d d':=by
 induction h with
 | same d=>exact .same d
 | any d=>exact .any d
 | nil n=>exact .nil n
 | own i j x=>exact .own i j x
 | nilown j=>exact .nilown j
 | bptr i j b off=>exact .bptr i j b off
 | row h _ _ _ _=>rw[hh]at h;cases h
 | sub h _ _ _ _=>rw[hh]at h;cases h
 | list hl hk _ ih=>exact .list hl hk ih
 | box h=>rw[hh]at h;cases h
 | agg hl _ ih=>exact .agg hl ih
 | tup hl _ ih=>exact .tup hl ih
 | clo hl _ ih=>exact .clo hl ih
 | nomp=>exact .nomp
 | mrow h _ _ _=>rw[hh]at h;cases h
 | mp hl _ ih=>exact .mp hl ih
theorem qdb{H:ab}{d d':D}(h:FrzTo bB d d'):FrzTo H d d':=qdc (fun _=>rfl) h
end Go.Gv

namespace Go.Gv
open Go.Proofs
open Cod (enc dec)
variable {S S0:Nat->Spc}
def OkCorp(c:Corpus):Prop:=c.attrs=iu/\1<=c.toks.length/\c.toks.length<=4096/\∀r∈c.toks,Dp r
theorem OkCorp.sz{c:Corpus}(h:OkCorp c):qhz c:=by
 obtain⟨h1,h2,h3,h4⟩:=h
 refine⟨by omega,fun r hr=>?_,by rw[h1];decide⟩
 obtain⟨w,t,f,_,_,_,rfl⟩:=h4 r hr
 simp
theorem P4:∀ {l:List sH} {s e:Int},Aw s l e->s<=e
 | [],s,e,h=>by have h:s=e:=h;omega
 | a::l,s,e,h=>by have:=P4 h.2.2;have:=h.1;have:=h.2.1;omega
theorem qfY{c:Corpus}(h:Qr c)(hk:J8 c):OkCorp c:=by
 obtain⟨h1,h2,h3,_⟩:=h
 refine⟨hk.1,?_,h3,hk.2⟩
 cases hl:c.texts with
 | nil=>exact absurd hl h2
 | cons a l=>
   rw[hl]at h1
   have:=P4 h1.2.2
   have:=h1.1
   have:=h1.2.1
   omega
end Go.Gv

namespace Go.Gv
def qnV:B:=⟨#[115]⟩
def qdK:B:=⟨#[110,112]⟩
def qnU:B:=⟨#[116]⟩
def Sk:B:=⟨#[120]⟩
def qq8:B:=⟨#[121]⟩
def Types:List B:=[qnV,qdK,qnU]
def Nr:List (Int×Int):=[(0,1),(0, -1),(1, -1),(2,2),(0,2),(1,3),(0,0)]
def qod(lb:List B)(p:Pat):Prop:=(p.op=1/\(p.lab=⟨#[]⟩\/p.lab∈lb)/\p.reg=⟨#[]⟩/\p.mn=0/\p.mx=0/\p.kids=[])\/((p.op=2\/p.op=3)/\p.cond=jh/\p.lab=⟨#[]⟩/\p.reg∈Types/\p.mn=0/\p.mx=0/\p.kids=[])
def WP(lb:List B):Nat->Pat->Prop
 | 0,p=>qod lb p
 | n+1,p=>qod lb p\/((p.op=4\/p.op=5)/\p.cond=jh/\p.lab=⟨#[]⟩/\p.reg=⟨#[]⟩/\p.mn=0/\p.mx=0/\∃a b,p.kids=[a,b]/\WP lb n a/\WP lb n b)\/
   (p.op=6/\p.cond=jh/\p.lab=⟨#[]⟩/\p.reg=⟨#[]⟩/\(p.mn,p.mx) ∈Nr/\∃a,p.kids=[a]/\WP lb n a)
theorem qog{lb:List B}{n:Nat}{p:Pat}(h:qod lb p):WP lb n p:=by
 cases n
 ·exact h
 ·exact .inl h
def qeS(lb:List B):Prop:=∀l∈lb,l=Sk\/l=qq8
theorem xL{lb:List B}{n:Nat}{p:Pat}(h:WP lb n p):qod lb p\/ ∃m,n=m+1/\(((p.op=4\/p.op=5)/\p.cond=jh/\p.lab=⟨#[]⟩/\p.reg=⟨#[]⟩/\p.mn=0/\p.mx=0/\∃a b,p.kids=[a,b]/\WP lb m a/\WP lb m b)\/
 (p.op=6/\p.cond=jh/\p.lab=⟨#[]⟩/\p.reg=⟨#[]⟩/\(p.mn,p.mx) ∈Nr/\∃a,p.kids=[a]/\WP lb m a)):=by
 cases n with
 | zero=>exact .inl h
 | succ m=>exact h.elim .inl fun h=> .inr ⟨m,rfl,h⟩
theorem Gl{lb:List B}{C:Nat->Pat->Prop}(h:∀n p,WP lb n p->(∀k∈p.kids,∃m,n=m+1/\WP lb m k/\C m k)->C n p):∀n p,WP lb n p->C n p:=by
 intro n
 induction n with
 | zero=>
   intro p hp
   refine h 0 p hp fun k hk=>?_
   rcases hp with hp|hp
   ·rw[hp.2.2.2.2.2]at hk;simp at hk
   ·rw[hp.2.2.2.2.2.2]at hk;simp at hk
 | succ m ih=>
   intro p hp
   refine h (m+1) p hp fun k hk=>⟨m,rfl,?_⟩
   have:WP lb m k:=by
    rcases hp with(hp|hp)|hp|hp
    ·rw[hp.2.2.2.2.2]at hk;simp at hk
    ·rw[hp.2.2.2.2.2.2]at hk;simp at hk
    ·obtain⟨a,b,e,ha,hb⟩:=hp.2.2.2.2.2.2
     rw[e]at hk
     simp at hk
     rcases hk with rfl|rfl
     ·exact ha
     ·exact hb
    ·obtain⟨a,e,ha⟩:=hp.2.2.2.2.2
     rw[e]at hk
     simp at hk
     subst hk
     exact ha
   exact⟨this,ih k this⟩
theorem qbw{v:B->Bool}{lb:List B}(hl:qeS lb)(hv:v qnV=true/\v qdK=true/\v qnU=true/\v Sk=true/\v qq8=true):∀n p,WP lb n p->n<=90->pW v p=true:=by
 have key:∀n p,WP lb n p->(n<=90->∀d:Int,d+n<=100->cP p d=true)/\eC yC p=true/\eC (uS v) p=true/\eC xG p=true:=by
  refine Gl fun n p hp ih=>?_
  have hnode:yC p=true/\uS v p=true/\xG p=true:=by
   rw[zK]
   unfold uA uS xG
   rw[decide_eq_true_eq,decide_eq_true_eq]
   have hr:(p.mn,p.mx) ∈Nr->0<=p.mn/\p.mn<=16/\(p.mx= -1\/p.mn<=p.mx/\p.mx<=16):=by
    intro h
    simp[Nr]at h
    omega
   have ht:p.reg∈Types->v p.reg=true:=by
    intro h
    simp[Types]at h
    rcases h with h|h|h <;> rw[h]
    ·exact hv.1
    ·exact hv.2.1
    ·exact hv.2.2.1
   rcases xL hp with(⟨h1,h2,h3,h4,h5,h6⟩|⟨h1,h2,h3,h4,h5,h6,h7⟩)|⟨m,_,(⟨h1,h2,h3,h4,h5,h6,a,b,h7,_⟩|⟨h1,h2,h3,h4,h5,a,h7,_⟩)⟩
   ·refine⟨.inl ⟨h1,h3,h4,h5,h6⟩,⟨fun h=>by omega,fun hne=>?_⟩,fun h=>by omega⟩
    rcases h2 with h2|h2
    ·exact absurd h2 hne
    ·rcases hl _ h2 with h|h <;> rw[h]
     ·exact hv.2.2.2.1
     ·exact hv.2.2.2.2
   ·exact⟨.inr (.inl ⟨h1,h2,h3,h5,h6,h7⟩),⟨fun _=>ht h4,fun h=>absurd h3 h⟩,fun h=>by omega⟩
   ·exact⟨.inr (.inr (.inl ⟨h1,h2,h3,h4,h5,h6,by rw[h7];simp⟩)),⟨fun h=>by omega,fun h=>absurd h3 h⟩,fun h=>by omega⟩
   ·exact⟨.inr (.inr (.inr ⟨h1,h2,h3,h4,by rw[h7];simp⟩)),⟨fun h=>by omega,fun h=>absurd h3 h⟩,fun _=>hr h5⟩
  refine⟨fun hn d hd=>?_,?_,?_,?_⟩
  ·rw[lC,qtN,decide_eq_true_eq,qtL]
   refine⟨by omega,fun k hk=>?_⟩
   obtain⟨m,e,_,h,_⟩:=ih k hk
   exact h (by omega) _ (by omega)
  ·rw[eb,qtN,qtL]
   exact⟨hnode.1,fun k hk=>by obtain⟨m,e,_,h⟩:=ih k hk;exact h.2.1⟩
  ·rw[eb,qtN,qtL]
   exact⟨hnode.2.1,fun k hk=>by obtain⟨m,e,_,h⟩:=ih k hk;exact h.2.2.1⟩
  ·rw[eb,qtN,qtL]
   exact⟨hnode.2.2,fun k hk=>by obtain⟨m,e,_,h⟩:=ih k hk;exact h.2.2.2⟩
 intro n p hp hn
 obtain⟨h1,h2,h3,h4⟩:=key n p hp
 unfold pW
 rw[h1 hn 1 (by omega),h2,h3,h4]
 rfl
theorem qbv{lb:List B} :∀n p,WP lb n p->n<=5->1<=jX p/\jX p<=3^n/\pY p+1<=2^ (n+1):=by
 refine Gl fun n p hp ih hn=>?_
 have hb:(1:Int)<=3^n/\1<=2^n:=⟨Int.pow_pos (by omega),Nat.one_le_two_pow⟩
 rcases xL hp with(⟨h1,h2,h3,h4,h5,h6⟩|⟨h1,h2,h3,h4,h5,h6,h7⟩)|⟨m,rfl,(⟨h1,h2,h3,h4,h5,h6,a,b,h7,_⟩|⟨h1,h2,h3,h4,h5,a,h7,_⟩)⟩
 ·rw[uL,EY,if_pos h6,sW,h6,eP,Nat.pow_succ];omega
 ·rw[uL,EY,if_pos h7,sW,h7,eP,Nat.pow_succ];omega
 ·obtain⟨m1,e1,_,a1⟩:=ih a (by rw[h7];simp)
  obtain⟨m2,e2,_,a2⟩:=ih b (by rw[h7];simp)
  have e1:m1=m:=by omega
  have e2:m2=m:=by omega
  subst e1;subst e2
  have a1:=a1 (by omega)
  have a2:=a2 (by omega)
  rw[uL,EY,if_neg (by rw[h7];simp),if_neg (by omega),sW,h7]
  simp only[gG,eP]
  rw[Int.pow_succ,Nat.pow_succ]
  rw[Nat.pow_succ]at a1 a2 ⊢
  have h2:(0:Int)<=3^m2:=by omega
  have:(3:Int) ^m2<=243:=by
   have:m2=0\/m2=1\/m2=2\/m2=3\/m2=4:=by omega
   rcases this with rfl|rfl|rfl|rfl|rfl <;> decide
  omega
 ·obtain⟨m1,e1,_,a1⟩:=ih a (by rw[h7];simp)
  have e1:m1=m:=by omega
  subst e1
  have a1:=a1 (by omega)
  rw[uL,EY,if_neg (by rw[h7];simp),if_pos h1,sW,h7]
  simp only[gG,eP]
  rw[Int.pow_succ,Nat.pow_succ]
  rw[Nat.pow_succ]at a1 ⊢
  have:(3:Int) ^m1<=243:=by
   have:m1=0\/m1=1\/m1=2\/m1=3\/m1=4:=by omega
   rcases this with rfl|rfl|rfl|rfl|rfl <;> decide
  simp only[Nr,qtM,qv4,quc,or_false]at h5
  rw[show min (0+jX a) 1000=jX a by omega]
  rcases h5 with⟨e1,e2⟩|⟨e1,e2⟩|⟨e1,e2⟩|⟨e1,e2⟩|⟨e1,e2⟩|⟨e1,e2⟩|⟨e1,e2⟩ <;> rw[e1,e2] <;> simp <;> omega
end Go.Gv

namespace Go.Gv
def CS:Nat->Cond->Prop
 | 0,c=>c.kids=[]
 | n+1,c=>c.kids.length<=2/\∀k∈c.kids,CS n k
theorem Sb{n:Nat}{c:Cond}(h:c.kids=[]):CS n c:=by
 cases n
 ·exact h
 ·exact⟨by rw[h];exact qub _,fun k hk=>by rw[h]at hk;simp at hk⟩
theorem qgX{n m:Nat}{c a:Cond}(hm:n=m+1)(h:c.kids=[a])(ha:CS m a):CS n c:=by
 subst hm
 refine⟨by rw[h];exact qvd _,fun k hk=>?_⟩
 rw[h]at hk
 have:k=a:=by simpa using hk
 subst this
 exact ha
theorem qgW{n m:Nat}{c a b:Cond}(hm:n=m+1)(h:c.kids=[a,b])(ha:CS m a)(hb:CS m b):CS n c:=by
 subst hm
 refine⟨by rw[h];exact qtP _,fun k hk=>?_⟩
 rw[h]at hk
 have:k=a\/k=b:=by simpa using hk
 rcases this with rfl|rfl
 ·exact ha
 ·exact hb
theorem qdt{n:Nat}{c d:Cond}(h:c.kids=d.kids)(hd:CS n d):CS n c:=by
 cases n
 ·exact h.trans hd
 ·exact⟨by rw[h];exact hd.1,fun k hk=>hd.2 k (by rw[<-h];exact hk)⟩
def PD:Nat->Pat->Prop
 | 0,p=>(∃m,CS m p.cond)/\p.kids=[]
 | n+1,p=>(∃m,CS m p.cond)/\p.kids.length<=2/\∀k∈p.kids,PD n k
theorem YH{n:Nat}{p:Pat}(hc:∃m,CS m p.cond)(h:p.kids=[]):PD n p:=by
 cases n
 ·exact⟨hc,h⟩
 ·exact⟨hc,by rw[h];exact qub _,fun k hk=>by rw[h]at hk;simp at hk⟩
theorem qfT{n m:Nat}{p a:Pat}(hm:n=m+1)(hc:∃m,CS m p.cond)(h:p.kids=[a])(ha:PD m a):PD n p:=by
 subst hm
 refine⟨hc,by rw[h];exact qvd _,fun k hk=>?_⟩
 rw[h]at hk
 have:k=a:=by simpa using hk
 subst this
 exact ha
theorem YG{n m:Nat}{p a b:Pat}(hm:n=m+1)(hc:∃m,CS m p.cond)(h:p.kids=[a,b])(ha:PD m a)(hb:PD m b):PD n p:=by
 subst hm
 refine⟨hc,by rw[h];exact qtP _,fun k hk=>?_⟩
 rw[h]at hk
 have:k=a\/k=b:=by simpa using hk
 rcases this with rfl|rfl
 ·exact ha
 ·exact hb
theorem T0:∃m,CS m jh:=⟨0,rfl⟩
end Go.Gv

namespace Go.Gv
open Cod (enc dec)
structure Glob where
 op:Int
 a:B
 b:B
 name:B
 arg:B
 val:B
 fold:Bool
 mn:Int
 mx:Int
 args:List B
 kids:List Glob
mutual
def It:Glob->D
 | .mk p0 p1 p2 p3 p4 p5 p6 p7 p8 p9 ks=> .agg [enc p0,enc p1,enc p2,enc p3,enc p4,enc p5,enc p6,enc p7,enc p8,enc p9, .list 11 (xf ks)]
def xf:List Glob->List D
 | []=>[]
 | k::ks=>It k::xf ks
end
mutual
def PZ:D->Option Glob
 | .agg [x0,x1,x2,x3,x4,x5,x6,x7,x8,x9,x10]=>(dec x0).bind fun p0=>(dec x1).bind fun p1=>(dec x2).bind fun p2=>(dec x3).bind fun p3=>(dec x4).bind fun p4=>(dec x5).bind fun p5=>(dec x6).bind fun p6=>(dec x7).bind fun p7=>(dec x8).bind fun p8=>(dec x9).bind fun p9=>(Fj x10).bind fun ks=>some (.mk p0 p1 p2 p3 p4 p5 p6 p7 p8 p9 ks)
 | _=>none
def Fj:D->Option (List Glob)
 | .list n es=>if n=11 then za es else none
 | .v (.slice none 0 0)=>some []
 | _=>none
def za:List D->Option (List Glob)
 | []=>some []
 | d::ds=>(PZ d).bind fun x=>(za ds).bind fun xs=>some (x::xs)
end
theorem Es:∀l:List Glob,xf l=l.map It
 | []=>rfl
 | _::l=>by rw[xf,Es l];rfl
theorem TR:∀c:Glob,(It c).kn=true
 | .mk .. =>rfl
theorem PA:∀c:Glob,(It c).cells.length=11
 | .mk .. =>rfl
mutual
theorem PY:∀c:Glob,PZ (It c)=some c
 | .mk p0 p1 p2 p3 p4 p5 p6 p7 p8 p9 ks=>by
   have h:Fj (.list 11 (xf ks))=some ks:=by rw[Fj,if_pos rfl];exact Ld ks
   simp only[It,PZ,Cod.dec_enc,qtY,h]
theorem Ld:∀l:List Glob,za (xf l)=some l
 | []=>by simp only[xf,za]
 | c::l=>by simp only[xf,za,PY c,Ld l,qtY]
end
mutual
theorem TY:∀ (d:D) (c:Glob),PZ d=some c->FrzTo bB d (It c)
 | .agg [x0,x1,x2,x3,x4,x5,x6,x7,x8,x9,x10],c,h=>by
   simp only[PZ,qtE,qtT]at h
   obtain⟨p0,h0,p1,h1,p2,h2,p3,h3,p4,h4,p5,h5,p6,h6,p7,h7,p8,h8,p9,h9,ks,hk,rfl⟩:=h
   rw[It]
   exact LeL.agg (.cons (Cod.le _ _ h0) (.cons (Cod.le _ _ h1) (.cons (Cod.le _ _ h2) (.cons (Cod.le _ _ h3) (.cons (Cod.le _ _ h4) (.cons (Cod.le _ _ h5) (.cons (Cod.le _ _ h6) (.cons (Cod.le _ _ h7) (.cons (Cod.le _ _ h8) (.cons (Cod.le _ _ h9) ((.cons (qah x10 ks hk) .nil))))))))))))
theorem qah:∀ (d:D) (l:List Glob),Fj d=some l->FrzTo bB d (.list 11 (xf l))
 | .list n es,l,h=>by
   simp only[Fj]at h
   split at h
   ·rename_i hn
    subst hn
    have hl:=PX es l h
    refine .list hl.1 (fun e he=>?_) hl.2
    rw[Es]at he
    obtain⟨x,hx,rfl⟩:=qtU.1 he
    exact⟨TR x,PA x⟩
   ·cases h
 | .v (.slice none 0 0),l,h=>by
   simp only[Fj,qtT]at h
   subst h
   exact .nil _
theorem PX:∀ (es:List D) (l:List Glob),za es=some l->LeL es (xf l)
 | [],l,h=>by
   simp only[za,qtT]at h
   subst h
   exact .nil
 | d::ds,l,h=>by
   simp only[za,qtE,qtT]at h
   obtain⟨x,h1,xs,h2,rfl⟩:=h
   rw[xf]
   exact .cons (TY d x h1) (PX ds xs h2)
end
instance:Cod Glob where
 wd:=11
 enc:=It
 dec:=PZ
 kn:=TR
 wid:=PA
 dec_enc:=PY
 le:=TY
theorem Wu(ks:List Glob):D.list 11 (xf ks)=enc ks:=by rw[Es];rfl
theorem IB:∀es:List D,za es=es.mapM (dec (X:=Glob))
 | []=>by simp[za]
 | d::es=>by
   rw[za,qui,IB es]
   rfl
theorem qai:∀d:D,Fj d=dec (X:=List Glob) d:=fun d=>by
 unfold Fj
 split
 ·rename_i n es
  show _=if n=11 then es.mapM (dec (X:=Glob))else none
  rw[IB]
 ·rfl
 ·rename_i h1 h2
  show _=(match d with
   | .list n es=>if n=11 then es.mapM (dec (X:=Glob))else none
   | .v (.slice none 0 0)=>some []
   | _=>none)
  split
  ·exact absurd rfl (h1 _ _)
  ·exact absurd rfl h2
  ·rfl
@[simp] theorem qka(s:Glob):Glob.mk s.op s.a s.b s.name s.arg s.val s.fold s.mn s.mx s.args s.kids=s:=by cases s;rfl
@[simp] theorem Px(s:Glob):enc s= .agg [enc s.op,enc s.a,enc s.b,enc s.name,enc s.arg,enc s.val,enc s.fold,enc s.mn,enc s.mx,enc s.args,enc s.kids]:=by
 rw[<-Wu]
 cases s
 show It _=_
 rw[It]
@[simp] theorem qlf:Cod.wd Glob=11:=id rfl
@[simp] theorem qkk(x0 x1 x2 x3 x4 x5 x6 x7 x8 x9 x10:D):dec (X:=Glob) (.agg [x0,x1,x2,x3,x4,x5,x6,x7,x8,x9,x10])=((dec x0).bind fun x0=>(dec x1).bind fun x1=>(dec x2).bind fun x2=>(dec x3).bind fun x3=>(dec x4).bind fun x4=>(dec x5).bind fun x5=>(dec x6).bind fun x6=>(dec x7).bind fun x7=>(dec x8).bind fun x8=>(dec x9).bind fun x9=>(dec x10).bind fun x10=>some ⟨x0,x1,x2,x3,x4,x5,x6,x7,x8,x9,x10⟩):=by
 show PZ _=_
 simp only[PZ,qai]
structure Sz where
 op:Int
 neg:Bool
 reg:B
instance:Cod Sz where
 wd:=3
 enc f:= .agg [enc f.op,enc f.neg,enc f.reg]
 dec| .agg [x0,x1,x2]=>(dec x0).bind fun a=>(dec x1).bind fun b=>(dec x2).bind fun c=>some ⟨a,b,c⟩|_=>none
 kn _:=rfl
 wid _:=rfl
 dec_enc f:=by simp only[Cod.dec_enc,qtY]
 le d x h:=by
  split at h
  ·simp only[qtE,qtT]at h
   obtain⟨a,h0,b,h1,c,h2,rfl⟩:=h
   exact LeL.agg (.cons (Cod.le _ _ h0) (.cons (Cod.le _ _ h1) (.cons (Cod.le _ _ h2) .nil)))
  ·cases h
@[simp] theorem qlg:Cod.wd Sz=3:=id rfl
structure Qry where
 pat:Pat
 glob:Glob
 filts:List Sz
 strat:Int
def Ez:Pat->List D| .mk op c l r mn mx ks=>enc op::(zg c++ [enc l,enc r,enc mn,enc mx,enc ks])
theorem WC:∀p:Pat,D.agg (Ez p)=enc p
 | .mk .. =>(MZ ..).symm
theorem Sf:∀p:Pat,(Ez p).length=13
 | .mk op c l r mn mx ks=>by simp[Ez,IG]
def IF(g:Glob):List D:=[enc g.op,enc g.a,enc g.b,enc g.name,enc g.arg,enc g.val,enc g.fold,enc g.mn,enc g.mx,enc g.args,enc g.kids]
theorem WD(g:Glob):D.agg (IF g)=enc g:=(Px g).symm
theorem qaQ{l l':List D}(h:FrzTo bB (.agg l) (.agg l')):LeL l l':=by
 cases h with
 | same=>exact⟨rfl,fun k x y hx hy=>by rw[hx]at hy;cases hy;exact .same _⟩
 | agg hl h=>exact⟨hl,h⟩
theorem qab{l:List D}{p:Pat}(h:dec (D.agg l)=some p):LeL l (Ez p):=qaQ (by rw[WC];exact Cod.le _ _ h)
theorem Ww{l:List D}{p:Glob}(h:dec (D.agg l)=some p):LeL l (IF p):=qaQ (by rw[WD];exact Cod.le _ _ h)
def qgF(q:Qry):D:= .agg (Ez q.pat++ (IF q.glob++ [enc q.filts,enc q.strat]))
def qgQ:D->Option Qry
 | .agg [x0,x1,x2,x3,x4,x5,x6,x7,x8,x9,x10,x11,x12,y0,y1,y2,y3,y4,y5,y6,y7,y8,y9,y10,f,s]=>(dec (D.agg [x0,x1,x2,x3,x4,x5,x6,x7,x8,x9,x10,x11,x12])).bind fun p=>(dec (D.agg [y0,y1,y2,y3,y4,y5,y6,y7,y8,y9,y10])).bind fun g=>(dec f).bind fun fs=>(dec s).bind fun st=>some ⟨p,g,fs,st⟩
 | _=>none
instance:Cod Qry where
 wd:=26
 enc:=qgF
 dec:=qgQ
 kn _:=rfl
 wid q:=by simp[qgF,D.cells,Sf,IF]
 dec_enc q:=by
  obtain⟨⟨op,⟨o,n,a,v,l,f,cks⟩,lb,rg,mn,mx,ks⟩,g,fs,st⟩:=q
  have h1:=Cod.dec_enc (⟨op,⟨o,n,a,v,l,f,cks⟩,lb,rg,mn,mx,ks⟩:Pat)
  have h2:=Cod.dec_enc g
  rw[MZ]at h1
  rw[Px]at h2
  simp only[zg,quv,quD]at h1
  simp only[qgF,Ez,zg,IF,quv,quD,qgQ,h1,h2,Cod.dec_enc,qtY]
 le d x h:=by
  unfold qgQ at h
  split at h
  ·simp only[qtE,qtT]at h
   obtain⟨p,h0,g,h1,fs,h2,st,h3,rfl⟩:=h
   exact LeL.agg ((qab h0).append ((Ww h1).append (.cons (Cod.le _ _ h2) (.cons (Cod.le _ _ h3) .nil))))
  ·cases h
@[simp] theorem qm3(s:Qry):Qry.mk s.pat s.glob s.filts s.strat=s:=by cases s;rfl
@[simp] theorem qne(s:Qry):enc s= .agg [enc s.pat.op,enc s.pat.cond.op,enc s.pat.cond.name,enc s.pat.cond.arg,enc s.pat.cond.val,enc s.pat.cond.lab,enc s.pat.cond.fold,enc s.pat.cond.kids,enc s.pat.lab,enc s.pat.reg,enc s.pat.mn,enc s.pat.mx,enc s.pat.kids,enc s.glob.op,enc s.glob.a,enc s.glob.b,enc s.glob.name,enc s.glob.arg,enc s.glob.val,enc s.glob.fold,enc s.glob.mn,enc s.glob.mx,enc s.glob.args,enc s.glob.kids,enc s.filts,enc s.strat]:=by
 obtain⟨⟨op,⟨o,n,a,v,l,f,cks⟩,lb,rg,mn,mx,ks⟩,g,fs,st⟩:=s
 rfl
@[simp] theorem qnn(x0 x1 x2 x3 x4 x5 x6 x7 x8 x9 x10 x11 x12 y0 y1 y2 y3 y4 y5 y6 y7 y8 y9 y10 f s:D):dec (X:=Qry) (.agg [x0,x1,x2,x3,x4,x5,x6,x7,x8,x9,x10,x11,x12,y0,y1,y2,y3,y4,y5,y6,y7,y8,y9,y10,f,s])=((dec (D.agg [x0,x1,x2,x3,x4,x5,x6,x7,x8,x9,x10,x11,x12])).bind fun p=>(dec (D.agg [y0,y1,y2,y3,y4,y5,y6,y7,y8,y9,y10])).bind fun g=>(dec f).bind fun fs=>(dec s).bind fun st=>some ⟨p,g,fs,st⟩):=id rfl
end Go.Gv

namespace Go.Gv
open Cod (enc dec)
structure Fl where
 kind:Int
 text:B
 pos:Int
instance:Cod Fl where
 wd:=3
 enc t:= .agg [.v (.int .u8 t.kind),enc t.text,enc t.pos]
 dec| .agg [.v (.int .u8 k),x1,x2]=>(dec x1).bind fun b=>(dec x2).bind fun c=>some ⟨k,b,c⟩|_=>none
 kn _:=rfl
 wid _:=rfl
 dec_enc f:=by simp only[Cod.dec_enc,qtY]
 le d x h:=by
  split at h
  ·simp only[qtE,qtT]at h
   obtain⟨b,h1,c,h2,rfl⟩:=h
   exact LeL.agg (.cons (.same _) (.cons (Cod.le _ _ h1) (.cons (Cod.le _ _ h2) .nil)))
  ·cases h
@[simp] theorem qnb(s:Fl):enc s= .agg [.v (.int .u8 s.kind),enc s.text,enc s.pos]:=id rfl
@[simp] theorem qoq:Cod.wd Fl=3:=id rfl
structure Pst where
 l:List Fl
 pos:Int
 deep:Int
 e:Int
 fail:Int
@[simp] theorem qm4(s:Pst):Pst.mk s.l s.pos s.deep s.e s.fail=s:=by cases s;rfl
def kj(s:Pst):List D:=[enc s.l,enc s.pos,enc s.deep,enc s.e,enc s.fail]
@[simp] theorem qkw(s:Pst):kj s=[enc s.l,enc s.pos,enc s.deep,enc s.e,enc s.fail]:=id rfl
def Pst.step(s:Pst):Pst:={ s with pos:=s.pos+1 }
def vW(s:Pst):Option Fl:=if 0<=s.pos/\s.l.length<=1000000 then s.l[s.pos.toNat]? else none
def TB(s:Pst)(k:Int)(t:B):Option Bool:=if s.e≠0 then some false else(vW s).map fun x=>decide (x.kind=k/\x.text=t)
def qf(s:Pst)(t:B):Option (Pst×Bool):=(TB s 111 t).map fun b=>if b then(s.step,true)else(s,false)
def BL(s:Pst)(k:Int)(t:B):Option (Pst×B):=if s.e≠0 then none else(vW s).bind fun x=>if x.kind≠k\/k=111/\x.text≠t then none else some (s.step,x.text)
def E0:B:=⟨#[]⟩
section
variable (A:Pst->Option (Pst×Pat))
def qem(op:Int)(l:List Pat):Pat:=match l with
 | [x]=>x
 | l=>⟨op,jh,E0,E0,0,0,l⟩
end
end Go.Gv

namespace Go.Gv
def qcU(s:B)(i:Nat):Bool:=match s.data[i]? with
 | some c=>decide (c.toNat=32\/c.toNat=10)
 | none=>false
def SH:Nat->B->Nat->Nat
 | 0,_,i=>i
 | n+1,s,i=>if qcU s i then SH n s (i+1)else i
def sT(s:B)(i:Nat):Nat:=SH (s.size -i) s i
def qcj:Nat->B->Nat->B->Option (Nat×B)
 | 0,_,_,_=>none
 | n+1,s,j,v=>match s.data[j]? with
   | none=>none
   | some c=>if c.toNat=34 then(match s.data[j+1]? with
      | some d=>if d.toNat=34 then none else some (j,v)
      | none=>some (j,v))else qcj n s (j+1) (v++s.extract j (j+1))
def Ru(s:B)(j:Nat)(v:B):Option (Nat×B):=qcj (s.size -j) s j v
def signsL:List B:=[⟨#[60,47]⟩,⟨#[33,61]⟩,⟨#[58,58]⟩,⟨#[37,99]⟩,⟨#[91]⟩,⟨#[93]⟩,⟨#[40]⟩,⟨#[41]⟩,⟨#[123]⟩,⟨#[125]⟩,⟨#[60]⟩,⟨#[62]⟩,⟨#[124]⟩,⟨#[38]⟩,⟨#[33]⟩,⟨#[61]⟩,⟨#[58]⟩,⟨#[46]⟩,⟨#[44]⟩,⟨#[63]⟩,⟨#[42]⟩,⟨#[43]⟩,⟨#[45]⟩]
def qfR(s:B)(i:Nat)(x:B):Bool:=decide (i+x.size<=s.size/\s.extract i (i+x.size)=x)
theorem AM{s:B}{i:Nat}(h:i < s.size):sT s i=if qcU s i then sT s (i+1)else i:=by
 unfold sT
 rw[show s.size -i=(s.size - (i+1)) +1 by omega,SH]
theorem Kh{s:B}{i:Nat}(h:s.size<=i):sT s i=i:=by
 unfold sT
 rw[show s.size -i=0 by omega,SH]
theorem Vg{s:B}{j:Nat}{v:B}{c:UInt8}(h:s.data[j]? =some c):Ru s j v=if c.toNat=34 then(match s.data[j+1]? with
 | some d=>if d.toNat=34 then none else some (j,v)
 | none=>some (j,v))else Ru s (j+1) (v++s.extract j (j+1)):=by
 have hj:j < s.size:=(qtO.1 h).1
 unfold Ru
 rw[show s.size -j=(s.size - (j+1)) +1 by omega,qcj,h]
theorem Yy{s:B}{j:Nat}{v:B}(h:s.size<=j):Ru s j v=none:=by
 unfold Ru
 rw[show s.size -j=0 by omega,qcj]
end Go.Gv

namespace Go.Gv
open Cod (enc dec)
section
variable (N:Pst->Option (Pst×Cond))(O:Pst->Option (Pst×Cond))
end
section
variable (A:Pst->Option (Pst×Pat))(O:Pst->Option (Pst×Cond))
end
section
variable (N:Pst->Option (Pst×Glob))(O:Pst->Option (Pst×Glob))
end
end Go.Gv

namespace Go.Gv
def Zi(c:Nat):Bool:=decide (65<=c/\c<=90\/97<=c/\c<=122\/c=95)
def Zo(s:B)(i:Nat):Bool:=match s.data[i]? with
 | some c=>Zi c.toNat||decide (48<=c.toNat/\c.toNat<=57\/c.toNat=45)
 | none=>false
def qcA:Nat->B->Nat->Nat
 | 0,_,i=>i
 | n+1,s,i=>if Zo s i then qcA n s (i+1)else i
def Ef(s:B)(i:Nat):Nat:=qcA (s.size -i) s i
end Go.Gv

namespace Go.Gv
open Cod (enc dec)
variable {S S0:Nat->Spc}
end Go.Gv

namespace Go.Gv
open Cod (enc dec)
variable {S S0:Nat->Spc}
def Ah(c:Int):Bool:=decide (65<=c/\c<=90\/97<=c/\c<=122\/c=95)
def Wy(c:Int):Bool:=Ah c||decide (48<=c/\c<=57\/c=45)
def IV(s:B):Prop:=1<=s.size/\s.size<=32/\(∀c:UInt8,s.data[0]? =some c->Ah c.toNat=true)/\∀ (k:Nat) (c:UInt8),s.data[k]? =some c->Wy c.toNat=true
noncomputable def bT(s:B):Bool:= @decide (IV s) (Classical.propDecidable _)
theorem vr(s:B):bT s=true↔IV s:= @decide_eq_true_iff (IV s) (Classical.propDecidable _)
theorem Xj{s:B}(h:IV s):true=bT s:=((vr s).2 h).symm
theorem B3{s:B}(h:¬IV s):false=bT s:=by
 rcases hb:bT s
 ·rfl
 ·exact absurd ((vr s).1 hb) h
abbrev yc:Spc:=aS (a1 U8) (fun _=>True) (enc (X:=Bool)) fun x y=>y=Ah x.val
abbrev Ot:Spc:=aS (a1 U8) (fun _=>True) (enc (X:=Bool)) fun x y=>y=Wy x.val
abbrev Om:Spc:=aS (a1 B) (fun _=>True) (enc (X:=Bool)) fun x y=>y=bT x
theorem Fu:aq ot nJ S (a1 U8) (fun _=>True) (enc (X:=Bool)) fun x y=>y=Ah x.val:=by
 rintro⟨c⟩ -
 simp[ot,nJ,Ah]
 repeat' first|apply And.intro|intro _
 all_goals first|omega|(rw[qum];simp;omega)
theorem Ft(h1:S bL=yc):aq oo nI S (a1 U8) (fun _=>True) (enc (X:=Bool)) fun x y=>y=Wy x.val:=by
 rintro⟨c⟩ -
 simp[oo,nI,h1,Wy, -Bool.forall_bool]
 rcases hb:Ah c <;> simp[hb]
 repeat' first|apply And.intro|intro _
 all_goals first|omega|(rw[qum];simp;omega)
theorem AA(h1:S bL=yc)(h2:S dQ=Ot):aq jR jD S (a1 B) (fun _=>True) (enc (X:=Bool)) fun x y=>y=bT x:=by
 rintro s -
 simp[jR,jD,h1,h2]
 refine fun _=>⟨fun k1 _=>⟨fun k2=>⟨by omega,fun c hc=>⟨fun hb=>(B3 fun h=>by rw[h.2.2.1 c hc]at hb;cases hb).symm,fun hb _=>?_⟩⟩,fun k2=>(B3 fun h=>by have:=h.2.1;omega).symm⟩,fun k1=>(B3 fun h=>by have:=h.1;omega).symm⟩
 refine ai (X:=Unit) [0] [] s.size (fun k _=>∀ (j:Nat) (c:UInt8),j < k->s.data[j]? =some c->Wy c.toNat=true) (fun _=>[]) (fun _=>[]) () (by simp) (by simp) (by omega) (by simp) (by simp) (by intro j d hj;omega) (by simp) (by simp) ?_ ?_
 ·rintro k -hk h5
  simp[h2]
  refine⟨hk,fun d hd=>⟨fun hf=>(B3 fun h=>by rw[h.2.2.2 k d hd]at hf;cases hf).symm,fun ht j e hj he=>?_⟩⟩
  by_cases e1:j=k
  ·subst e1
   rw[hd]at he
   cases he
   exact ht
  ·exact h5 j e (by omega) he
 ·rintro -h5
  simp
  refine(Xj ⟨by omega,by omega,fun d hd=>by rw[hc]at hd;cases hd;exact hb,fun j e he=>h5 j e ?_ he⟩).symm
  exact(qtO.1 he).1
end Go.Gv

namespace Go.Gv
end Go.Gv

namespace Go.Gv
open Cod (enc dec)
end Go.Gv

namespace Go.Gv
open Cod (enc dec)
structure qeI where
 txt:B
 fin:Int
 kind:Int
 text:B
 pos:Int
section
variable {Y Z:Type}
variable {P:Program}{S:Nat->Spc}{f:Nat}{im:List Nat}{cc:CC}{rs:List aj}{N:Nat}
end
section
variable {Y Z:Type}
variable {P:Program}{S:Nat->Spc}{f:Nat}{im:List Nat}{cc:CC}{rs:List aj}{N:Nat}
end
end Go.Gv

namespace Go.Gv
section
variable (N:qeI->Option (qeI×Cond))(O:qeI->Option (qeI×Cond))
end
section
variable (A:qeI->Bool->Option (qeI×Pat))(O:qeI->Option (qeI×Cond))
end
def nt:Glob:=⟨0,E0,E0,E0,E0,E0,false,0,0, [], []⟩
end Go.Gv
